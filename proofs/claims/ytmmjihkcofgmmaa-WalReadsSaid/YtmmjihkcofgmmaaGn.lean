/- The texts WalAG of this seat, one behind another; what each says stands at its head. -/
import Derived.Test.YtmmjihkcofgmmaaGm

/- The document's Read. -/
namespace Go.Proofs.Ytmmjihkcofgmmaa
open Go.RowKit
set_option linter.unusedVariables false

/-- what the document's Read tells -/
def ReadP (w : World) (r : Option (List (List UInt8) × Nat)) (e : Ending) (w' : World) : Prop :=
  Fr [] w w' ∧ ((r = none ∧ e = .returned (.tuple #[.slice none 0 0, .bool false])) ∨
    ∃ T k A c, r = some (T, k) ∧ e = .returned (.tuple #[.slice A T.length c, .bool true]) ∧ TxRow w' (.slice A T.length c) [] w.heap.size T ∧ T.length ≤ 4096 ∧ ∀ t ∈ T, t.length ≤ 100000)
theorem ix_off {P : Program} {t e : TypeId} (ht : P.underlying t = some (.slice e)) (hi : (P.info? e).map (·.size) = some 1) {b off n c j : Nat} (i : Int) (hij : i = (j : Int)) (hj : j < n) (w : World) :
    (Instr.indexAt t (.slice (some ⟨b, off, none⟩) n c) (.int .i64 i)).run P w = .ok (.pointer (some ⟨b, off + j, none⟩)) w := by
  subst hij
  exact ix_sl0 ht hi hj w
theorem textAt_get {d : List UInt8} {n k m0 i : Nat} (hd : d.length = 64 * n) (hk : k + needN m0 ≤ n) (hkn : k < n) (hm : cntAt d k = m0) (h1 : m0 ≤ 100000) (hi : i < m0) :
    ∃ t, (textAt d k)[i]? = some t ∧ (i < 19 → d[64 * k + 12 + i]? = some t) ∧ (19 ≤ i → d[64 * k + 64 + i - 19]? = some t) := by
  have hn := needN_le m0 h1
  have hs := secAt_length hd hkn
  have hb : bodyAt d k (needN m0) = ((secAt d k).drop 12).take 19 ++ (d.drop (64 * (k + 1))).take (64 * (needN m0 - 1)) := rfl
  have hl : (((secAt d k).drop 12).take 19).length = 19 := by rw [List.length_take, List.length_drop, hs]; omega
  have ht : (textAt d k)[i]? = (bodyAt d k (needN m0))[i]? := by
    unfold textAt
    rw [hm, List.getElem?_take_of_lt hi]
  rcases Nat.lt_or_ge i 19 with h | h
  · have e : (textAt d k)[i]? = d[64 * k + 12 + i]? := by
      rw [ht, hb, List.getElem?_append_left (by omega), List.getElem?_take_of_lt h, List.getElem?_drop, secAt_get, if_pos (by omega)]
      congr 1
      omega
    refine ⟨d[64 * k + 12 + i]'(by omega), ?_, fun _ => List.getElem?_eq_getElem _, fun h' => by omega⟩
    rw [e, List.getElem?_eq_getElem]
  · have e : (textAt d k)[i]? = d[64 * k + 64 + i - 19]? := by
      rw [ht, hb, List.getElem?_append_right (by omega), hl, List.getElem?_take_of_lt (by omega), List.getElem?_drop]
      congr 1
      omega
    refine ⟨d[64 * k + 64 + i - 19]'(by omega), ?_, fun h' => by omega, fun _ => List.getElem?_eq_getElem _⟩
    rw [e, List.getElem?_eq_getElem]
theorem textAt_length {d : List UInt8} {n k m0 : Nat} (hd : d.length = 64 * n) (hk : k + needN m0 ≤ n) (hkn : k < n) (hm : cntAt d k = m0) (h1 : m0 ≤ 100000) : (textAt d k).length = m0 := by
  unfold textAt
  rw [hm, List.length_take, bodyAt_length hd hkn (needN_pos m0 h1) hk, needN_le m0 h1]
  omega
theorem ex_cutm (A : Option Addr) (m c a : Nat) (ha : a + 64 ≤ m) (hc : m ≤ c) : ∃ A', (∀ w, (Instr.sliceAt 26 (.slice A m c) (some (.int .i64 (a : Int))) (some (.int .i64 ((a : Int) + 64))) none).run Try.prog w = .ok (.slice A' 64 (c - a)) w) ∧ ∀ w b, b.length = m → Rd w A b → Rd w A' ((b.drop a).take 64) := by
  refine ⟨if c = a then A else A.map (·.add a), fun w => ?_, fun w b hb hr => (hr.drop a c (by omega) (by omega)).take' 64⟩
  rw [run_sliceAt_slice w 26 _ _ _ _ (by kernel_rfl), run_slice_lh w 26 A m c (by kernel_rfl) .i64 .i64 _ _ (by omega) (by omega) (by omega)]
  have hsz : ∀ w, (sizeOf (Try.prog.elem 26)).run Try.prog w = .ok 1 w := fun w => by kernel_rfl
  rw [hsz]
  simp only [Result.andThen, sliced]
  rw [show ((a : Int) + 64).toNat = a + 64 by omega, Int.toNat_natCast, Nat.mul_one, Nat.add_sub_cancel_left]
theorem ex_slice_h {P : Program} {a : Act} {o : Oper} {t : TypeId} {x z : Operand} {u j v : Value} {w : World} (ho : o.op = .slice t x none (some z) none) (hx : a.eval x = u) (hz : a.eval z = j) (h : (Instr.sliceAt t u none (some j) none).run P w = .ok v w) : (execOp a.eval o).run P w = .ok (.value v) w := by
  unfold execOp
  simp [ho, hx, hz, h]
theorem ex_cuth (A : Option Addr) (m c : Nat) (h : 64 ≤ m) (hc : m ≤ c) : ∃ A', (∀ w, (Instr.sliceAt 26 (.slice A m c) none (some (.int .i64 64)) none).run Try.prog w = .ok (.slice A' 64 c) w) ∧ ∀ w b, b.length = m → Rd w A b → Rd w A' (b.take 64) := by
  refine ⟨if c = 0 then A else A.map (·.add 0), fun w => ?_, fun w b hb hr => ?_⟩
  · rw [run_sliceAt_slice w 26 _ _ _ _ (by kernel_rfl), run_slice_h w 26 A m c (by kernel_rfl) .i64 64 (by omega) (by omega)]
    have hsz : ∀ w, (sizeOf (Try.prog.elem 26)).run Try.prog w = .ok 1 w := fun w => by kernel_rfl
    rw [hsz]
    simp only [Result.andThen, sliced]
    rfl
  · have h1 := (hr.drop 0 c (by omega) (by omega)).take' 64
    simpa using h1
theorem nextR_more {n k m0 : Nat} {d : List UInt8} {T : List (List UInt8)} {q63 : UInt8} (hk : k < n) (h63 : (secAt d k)[63]? = some q63) (hm : cntAt d k = m0) :
    nextR n d T k = if q63 ≠ 1 then (false, 0, T, k) else if 100000 < m0 then (false, 31, T, k) else if n < k + needN m0 then (false, 31, T, k)
      else if firstB T.length (textAt d k) (sumR (lastR T) T.length (textAt d k)) ≠ secAt d k then (false, 31, T, k) else (true, 0, T ++ [textAt d k], k + needN m0) := by
  unfold nextR
  rw [if_neg (by omega), hm, List.getD_eq_getElem?_getD, h63]
  rfl
theorem openF_step (n : Nat) (d : List UInt8) (f : Nat) (T : List (List UInt8)) (k : Nat) (r : Bool × Int × List (List UInt8) × Nat) (h : nextR n d T k = r) : openF n d (f + 1) (T, k) = if r.1 then openF n d f r.2.2 else if r.2.1 = 0 then some (T, k) else none := by
  subst h
  rfl
set_option maxHeartbeats 8000000 in
set_option maxRecDepth 100000 in
theorem read08_calls (w : World) (DA : Option Addr) (m c n : Nat) (d : List UInt8) (hm : d.length = m) (hmn : m = 64 * n) (hn : n ≤ 4096) (hmc : m ≤ c) (hA : Rd w DA d) :
    Calls Try.prog 15 #[.slice DA m c] w (ReadP w (openR n d)) := by
  obtain ⟨R, hR⟩ : ∃ R, openR n d = R := ⟨_, rfl⟩
  rw [hR]
  obtain ⟨w1, hw1⟩ : ∃ W, w.alloc (.cells (zs 32).toArray 41) = W := ⟨_, rfl⟩
  have f1 : Fr [] w w1 := hw1 ▸ (Fr.refl [] w).alloc _
  obtain ⟨B1, hB1⟩ : ∃ B1, w.heap.size + 1 = B1 := ⟨_, rfl⟩
  have HB1 := Lib.hid hB1
  have HL1 := Lib.hid (show Blk w1 w.heap.size 41 (u8s (lastR [])).toArray from hw1 ▸ Blk.new w _ _)
  have F1 := Lib.hid f1; have HR := Lib.hid hR; have HA := Lib.hid hA; have HM := Lib.hid hm; have HMN := Lib.hid hmn
  have hmI : (0 : Int) ≤ (m : Int) ∧ (m : Int) ≤ 262144 ∧ (m : Int) ≤ (c : Int) := by omega
  clear f1 hR hA hm hmn hB1
  go_enter Try.func15, Try.ntmps15
  go_wp2_with (refine wpList_alloc_agg rfl 41 rfl (zs 32).toArray arr32_zero ?_; rw [hw1])
  go_loopg [4, 6] n (fun gg v u wr => ∃ (k a f : Nat) (T : List (List UInt8)) (A1 : Option Addr) (c1 : Nat), k ≤ n ∧ a = 64 * k ∧ gg = n - k ∧ u = .int .i64 (a : Int) ∧ v = .slice A1 T.length c1 ∧ TxRow wr (.slice A1 T.length c1) [w.heap.size] B1 T ∧ Blk wr w.heap.size 41 (u8s (lastR T)).toArray ∧ Fr [] w wr ∧ n - k < f ∧ R = openF n d f (T, k) ∧ T.length ≤ k ∧ ∀ t ∈ T, t.length ≤ 100000)
  case atStart => exact ⟨0, 0, n + 1, [], none, 0, by omega, rfl, by omega, rfl, rfl, TxRow.nil _ _ _, HL1.out, F1.out, by omega, HR.out.symm, Nat.zero_le _, by simp⟩
  case round =>
    rename World => wr
    obtain ⟨k, a, f, T, A1, c1, hk, ha, rfl, rfl, rfl, ht, hl, hf, hfu, hRf, hTk, hTs⟩ := hrel
    have HT := Lib.hid ht; have HL := Lib.hid hl; have HF := Lib.hid hf; have HAA := Lib.hid ha; have HRF := Lib.hid hRf; have HTS := Lib.hid hTs; have HFU := Lib.hid hfu
    obtain ⟨f', rfl⟩ : ∃ f', f = f' + 1 := ⟨f - 1, by omega⟩
    have haI : (0 : Int) ≤ (a : Int) ∧ (a : Int) ≤ (m : Int) := by have := HMN.out; omega
    clear ht hl hf hRf hTs hfu
    by_cases hkn : k < n
    · have hq63 : ∃ q63, d[a + 63]? = some q63 := ⟨_, List.getElem?_eq_getElem (by have := HM.out; have := HMN.out; omega)⟩
      obtain ⟨q63, hq63⟩ := hq63
      obtain ⟨q1, hq1⟩ : ∃ q, d[a + 1]? = some q := ⟨_, List.getElem?_eq_getElem (by have := HM.out; have := HMN.out; omega)⟩
      obtain ⟨q2, hq2⟩ : ∃ q, d[a + 2]? = some q := ⟨_, List.getElem?_eq_getElem (by have := HM.out; have := HMN.out; omega)⟩
      obtain ⟨q3, hq3⟩ : ∃ q, d[a + 3]? = some q := ⟨_, List.getElem?_eq_getElem (by have := HM.out; have := HMN.out; omega)⟩
      obtain ⟨gd, od, rfl, hcd⟩ := HA.out (by have := HM.out; have := HMN.out; omega)
      have hgd : gd < w.heap.size := World.block_lt_of_cell? _ _ (hcd _ _ hq1)
      have HCD := Lib.hid (fun W (h : Fr [] w W) i t (hi : d[i]? = some t) => (show W.cell? ⟨gd, od + i, none⟩ = some (.int .u8 (t.toNat : Int)) from (h.cell (p := ⟨gd, od + i, none⟩) hgd (by simp)).trans (hcd i t hi)))
      obtain ⟨m0, hm0⟩ : ∃ m0, cntAt d k = m0 := ⟨_, rfl⟩
      have hcn : m0 = 65536 * q1.toNat + 256 * q2.toNat + q3.toNat := by
        rw [← hm0]
        unfold cntAt cnt
        rw [List.getD_eq_getElem?_getD, List.getD_eq_getElem?_getD, List.getD_eq_getElem?_getD, secAt_get, secAt_get, secAt_get, if_pos (by omega), if_pos (by omega), if_pos (by omega), ← ha, hq1, hq2, hq3]
        rfl
      have h63 : (secAt d k)[63]? = some q63 := by rw [secAt_get, if_pos (by omega), ← ha]; exact hq63
      have hNX := nextR_more (T := T) hkn h63 hm0
      have HNX := Lib.hid hNX
      have HCN := Lib.hid hcn; have HM0 := Lib.hid hm0
      have hc63 := HCD.out wr HF.out _ _ hq63
      have HQ := Lib.hid (And.intro hq1 (And.intro hq2 hq3))
      have hq1I : (0 : Int) ≤ (q1.toNat : Int) ∧ (q1.toNat : Int) < 256 := by have := q1.toNat_lt; omega
      have hq2I : (0 : Int) ≤ (q2.toNat : Int) ∧ (q2.toNat : Int) < 256 := by have := q2.toNat_lt; omega
      have hq3I : (0 : Int) ≤ (q3.toNat : Int) ∧ (q3.toNat : Int) < 256 := by have := q3.toNat_lt; omega
      have ha64 : a + 64 ≤ m := by have := HMN.out; omega
      have haI2 : (a : Int) + 64 ≤ (m : Int) := by omega
      have hix63 := fun w' => ix_off (P := Try.prog) (b := gd) (off := od) (n := m) (c := c) (j := a + 63) Try.underlying26 Dk.sizeU8 ((a : Int) + 63) (by omega) (by omega) w'
      have HIX := Lib.hid (fun q (hq : q < 64) w' => ix_off (P := Try.prog) (b := gd) (off := od) (n := m) (c := c) (j := a + q) Try.underlying26 Dk.sizeU8 ((a : Int) + (q : Int)) (by omega) (by omega) w')
      clear hq63 hq1 hq2 hq3 hcd hcn h63 hNX ha hm0 hgd
      by_cases h1 : q63 = 1
      · have hb63 : ((q63.toNat : Int) == 1) = true := by subst h1; rfl
        have hltI : (a : Int) < (m : Int) := by omega
        have hltN : a < m := by omega
        go_upto_region 5 with fail
        all_goals (try exact absurd hltN (by assumption))
        go_cut [7] (fun v wc => v = .int .i64 (m0 : Int) ∧ Fr [] wr wc)
        case first =>
          have hS0 : OldW w wr.drew := HF.out.trans (Fr.refl [] wr).drew
          refine sqo_begin (w0 := w) (by kernel_rfl) ?_
          refine sqo_take (i := 0) (v := (.slice (some ⟨gd, od, none⟩) m c)) (d := 23) rfl (by kernel_rfl) (by kernel_rfl) (by kernel_rfl) (by kernel_rfl) (by kernel_rfl) (fun _ _ _ h => h) ?_ (by assumption) ?_
          · intro w9 h9; kernel_rfl
          try simp only [Act.put, List.setIfInBounds_toArray, List.set_cons_zero, List.set_cons_succ]
          refine sqo_take (i := 1) (v := (.int .i64 (a : Int))) (d := 24) rfl (by kernel_rfl) (by kernel_rfl) (by kernel_rfl) (by kernel_rfl) (by kernel_rfl) (fun _ _ _ h => h) ?_ (by assumption) ?_
          · intro w9 h9; kernel_rfl
          try simp only [Act.put, List.setIfInBounds_toArray, List.set_cons_zero, List.set_cons_succ]
          refine sqo_take (i := 2) (v := (.int .i64 ((a : Int) + 1))) (d := 25) rfl (by kernel_rfl) (by kernel_rfl) (by kernel_rfl) (by kernel_rfl) (by kernel_rfl) (fun _ _ _ h => h) ?_ (by assumption) ?_
          · intro w9 h9; first | (go_simp; done) | (go_simp; rw [IntKind.wrap_i64] <;> omega)
          try simp only [Act.put, List.setIfInBounds_toArray, List.set_cons_zero, List.set_cons_succ]
          refine sqo_take (i := 3) (v := (.pointer (some ⟨gd, od + (a + 1), none⟩))) (d := 26) rfl (by kernel_rfl) (by kernel_rfl) (by kernel_rfl) (by kernel_rfl) (by kernel_rfl) (fun _ _ _ h => h) ?_ (by assumption) ?_
          · intro w9 h9; exact ex_ixa rfl (by kernel_rfl) (by kernel_rfl) (HIX.out 1 (by omega) w9)
          try simp only [Act.put, List.setIfInBounds_toArray, List.set_cons_zero, List.set_cons_succ]
          refine sqo_take (i := 4) (v := (.int .u8 (q1.toNat : Int))) (d := 27) rfl (by kernel_rfl) (by kernel_rfl) (by kernel_rfl) (by kernel_rfl) (by kernel_rfl) (fun _ _ _ h => h) ?_ (by assumption) ?_
          · intro w9 h9; exact exec_load_one rfl (by kernel_rfl) (.int .u8 (q1.toNat : Int)) (.int .u8) w9 (HCD.out w9 h9 _ _ HQ.out.1) Try.underlying5 rfl
          try simp only [Act.put, List.setIfInBounds_toArray, List.set_cons_zero, List.set_cons_succ]
          refine sqo_take (i := 5) (v := (.int .i64 (q1.toNat : Int))) (d := 28) rfl (by kernel_rfl) (by kernel_rfl) (by kernel_rfl) (by kernel_rfl) (by kernel_rfl) (fun _ _ _ h => h) ?_ (by assumption) ?_
          · intro w9 h9; first | (go_simp; done) | (go_simp; rw [IntKind.wrap_i64] <;> omega)
          try simp only [Act.put, List.setIfInBounds_toArray, List.set_cons_zero, List.set_cons_succ]
          refine sqo_take (i := 6) (v := (.int .i64 (65536 * (q1.toNat : Int)))) (d := 29) rfl (by kernel_rfl) (by kernel_rfl) (by kernel_rfl) (by kernel_rfl) (by kernel_rfl) (fun _ _ _ h => h) ?_ (by assumption) ?_
          · intro w9 h9; first | (go_simp; done) | (go_simp; rw [IntKind.wrap_i64] <;> omega)
          try simp only [Act.put, List.setIfInBounds_toArray, List.set_cons_zero, List.set_cons_succ]
          refine sqo_take (i := 7) (v := (.slice (some ⟨gd, od, none⟩) m c)) (d := 30) rfl (by kernel_rfl) (by kernel_rfl) (by kernel_rfl) (by kernel_rfl) (by kernel_rfl) (fun _ _ _ h => h) ?_ (by assumption) ?_
          · intro w9 h9; kernel_rfl
          try simp only [Act.put, List.setIfInBounds_toArray, List.set_cons_zero, List.set_cons_succ]
          refine sqo_take (i := 8) (v := (.int .i64 (a : Int))) (d := 31) rfl (by kernel_rfl) (by kernel_rfl) (by kernel_rfl) (by kernel_rfl) (by kernel_rfl) (fun _ _ _ h => h) ?_ (by assumption) ?_
          · intro w9 h9; kernel_rfl
          try simp only [Act.put, List.setIfInBounds_toArray, List.set_cons_zero, List.set_cons_succ]
          refine sqo_take (i := 9) (v := (.int .i64 ((a : Int) + 2))) (d := 32) rfl (by kernel_rfl) (by kernel_rfl) (by kernel_rfl) (by kernel_rfl) (by kernel_rfl) (fun _ _ _ h => h) ?_ (by assumption) ?_
          · intro w9 h9; first | (go_simp; done) | (go_simp; rw [IntKind.wrap_i64] <;> omega)
          try simp only [Act.put, List.setIfInBounds_toArray, List.set_cons_zero, List.set_cons_succ]
          refine sqo_take (i := 10) (v := (.pointer (some ⟨gd, od + (a + 2), none⟩))) (d := 33) rfl (by kernel_rfl) (by kernel_rfl) (by kernel_rfl) (by kernel_rfl) (by kernel_rfl) (fun _ _ _ h => h) ?_ (by assumption) ?_
          · intro w9 h9; exact ex_ixa rfl (by kernel_rfl) (by kernel_rfl) (HIX.out 2 (by omega) w9)
          try simp only [Act.put, List.setIfInBounds_toArray, List.set_cons_zero, List.set_cons_succ]
          refine sqo_take (i := 11) (v := (.int .u8 (q2.toNat : Int))) (d := 34) rfl (by kernel_rfl) (by kernel_rfl) (by kernel_rfl) (by kernel_rfl) (by kernel_rfl) (fun _ _ _ h => h) ?_ (by assumption) ?_
          · intro w9 h9; exact exec_load_one rfl (by kernel_rfl) (.int .u8 (q2.toNat : Int)) (.int .u8) w9 (HCD.out w9 h9 _ _ HQ.out.2.1) Try.underlying5 rfl
          try simp only [Act.put, List.setIfInBounds_toArray, List.set_cons_zero, List.set_cons_succ]
          refine sqo_take (i := 12) (v := (.int .i64 (q2.toNat : Int))) (d := 35) rfl (by kernel_rfl) (by kernel_rfl) (by kernel_rfl) (by kernel_rfl) (by kernel_rfl) (fun _ _ _ h => h) ?_ (by assumption) ?_
          · intro w9 h9; first | (go_simp; done) | (go_simp; rw [IntKind.wrap_i64] <;> omega)
          try simp only [Act.put, List.setIfInBounds_toArray, List.set_cons_zero, List.set_cons_succ]
          refine sqo_take (i := 13) (v := (.int .i64 (256 * (q2.toNat : Int)))) (d := 36) rfl (by kernel_rfl) (by kernel_rfl) (by kernel_rfl) (by kernel_rfl) (by kernel_rfl) (fun _ _ _ h => h) ?_ (by assumption) ?_
          · intro w9 h9; first | (go_simp; done) | (go_simp; rw [IntKind.wrap_i64] <;> omega)
          try simp only [Act.put, List.setIfInBounds_toArray, List.set_cons_zero, List.set_cons_succ]
          refine sqo_take (i := 14) (v := (.int .i64 (65536 * (q1.toNat : Int) + 256 * (q2.toNat : Int)))) (d := 37) rfl (by kernel_rfl) (by kernel_rfl) (by kernel_rfl) (by kernel_rfl) (by kernel_rfl) (fun _ _ _ h => h) ?_ (by assumption) ?_
          · intro w9 h9; first | (go_simp; done) | (go_simp; rw [IntKind.wrap_i64] <;> omega)
          try simp only [Act.put, List.setIfInBounds_toArray, List.set_cons_zero, List.set_cons_succ]
          refine sqo_take (i := 15) (v := (.slice (some ⟨gd, od, none⟩) m c)) (d := 38) rfl (by kernel_rfl) (by kernel_rfl) (by kernel_rfl) (by kernel_rfl) (by kernel_rfl) (fun _ _ _ h => h) ?_ (by assumption) ?_
          · intro w9 h9; kernel_rfl
          try simp only [Act.put, List.setIfInBounds_toArray, List.set_cons_zero, List.set_cons_succ]
          refine sqo_take (i := 16) (v := (.int .i64 (a : Int))) (d := 39) rfl (by kernel_rfl) (by kernel_rfl) (by kernel_rfl) (by kernel_rfl) (by kernel_rfl) (fun _ _ _ h => h) ?_ (by assumption) ?_
          · intro w9 h9; kernel_rfl
          try simp only [Act.put, List.setIfInBounds_toArray, List.set_cons_zero, List.set_cons_succ]
          refine sqo_take (i := 17) (v := (.int .i64 ((a : Int) + 3))) (d := 40) rfl (by kernel_rfl) (by kernel_rfl) (by kernel_rfl) (by kernel_rfl) (by kernel_rfl) (fun _ _ _ h => h) ?_ (by assumption) ?_
          · intro w9 h9; first | (go_simp; done) | (go_simp; rw [IntKind.wrap_i64] <;> omega)
          try simp only [Act.put, List.setIfInBounds_toArray, List.set_cons_zero, List.set_cons_succ]
          refine sqo_take (i := 18) (v := (.pointer (some ⟨gd, od + (a + 3), none⟩))) (d := 41) rfl (by kernel_rfl) (by kernel_rfl) (by kernel_rfl) (by kernel_rfl) (by kernel_rfl) (fun _ _ _ h => h) ?_ (by assumption) ?_
          · intro w9 h9; exact ex_ixa rfl (by kernel_rfl) (by kernel_rfl) (HIX.out 3 (by omega) w9)
          try simp only [Act.put, List.setIfInBounds_toArray, List.set_cons_zero, List.set_cons_succ]
          refine sqo_take (i := 19) (v := (.int .u8 (q3.toNat : Int))) (d := 42) rfl (by kernel_rfl) (by kernel_rfl) (by kernel_rfl) (by kernel_rfl) (by kernel_rfl) (fun _ _ _ h => h) ?_ (by assumption) ?_
          · intro w9 h9; exact exec_load_one rfl (by kernel_rfl) (.int .u8 (q3.toNat : Int)) (.int .u8) w9 (HCD.out w9 h9 _ _ HQ.out.2.2) Try.underlying5 rfl
          try simp only [Act.put, List.setIfInBounds_toArray, List.set_cons_zero, List.set_cons_succ]
          refine sqo_take (i := 20) (v := (.int .i64 (q3.toNat : Int))) (d := 43) rfl (by kernel_rfl) (by kernel_rfl) (by kernel_rfl) (by kernel_rfl) (by kernel_rfl) (fun _ _ _ h => h) ?_ (by assumption) ?_
          · intro w9 h9; first | (go_simp; done) | (go_simp; rw [IntKind.wrap_i64] <;> omega)
          try simp only [Act.put, List.setIfInBounds_toArray, List.set_cons_zero, List.set_cons_succ]
          refine sqo_take (i := 21) (v := (.int .i64 (m0 : Int))) (d := 44) rfl (by kernel_rfl) (by kernel_rfl) (by kernel_rfl) (by kernel_rfl) (by kernel_rfl) (fun _ _ _ h => h) ?_ (by assumption) ?_
          · intro w9 h9; have := HCN.out; go_simp; rw [IntKind.wrap_i64] <;> omega
          try simp only [Act.put, List.setIfInBounds_toArray, List.set_cons_zero, List.set_cons_succ]
          refine sqo_take (i := 22) (v := (.int .i64 (m0 : Int))) (d := 7) rfl (by kernel_rfl) (by kernel_rfl) (by kernel_rfl) (by kernel_rfl) (by kernel_rfl) (fun _ _ _ h => h) ?_ (by assumption) ?_
          · intro w9 h9; kernel_rfl
          try simp only [Act.put, List.setIfInBounds_toArray, List.set_cons_zero, List.set_cons_succ]
          refine wpAnyH_done (by kernel_rfl) ?_ _
          go_wp2_with fail
          go_meet
          exact ⟨rfl, (Fr.refl [] wr).drew⟩
        case rest =>
          obtain ⟨rfl, hfq⟩ := hcut
          rename World => wq
          have HFQ := Lib.hid (HF.out.trans hfq); have HTQ := Lib.hid (HT.out.frD hfq); have HLQ := Lib.hid (HL.out.fr hfq (by simp))
          have hNX := HNX.out
          rw [if_neg (by simpa using h1)] at hNX
          have hm0b : (0 : Int) ≤ (m0 : Int) ∧ (m0 : Int) ≤ 16777215 := by have := HCN.out; omega
          clear hfq hix63 hc63 hb63 HF HT HL HNX hq1I hq2I hq3I HCN HQ
          by_cases hbig : 100000 < m0
          · rw [if_pos hbig] at hNX
            have HE := Lib.hid (show R = none by rw [HRF.out, openF_step n d f' T k _ hNX]; rfl)
            have hbI : (100000 : Int) < (m0 : Int) := by omega
            clear hNX
            go_wp2_with go_big_skip
            go_ret2
            exact ⟨HFQ.out, .inl ⟨HE.out, rfl⟩⟩
          · rw [if_neg hbig] at hNX
            have hbI : ¬ (100000 : Int) < (m0 : Int) := by omega
            obtain ⟨nn, hnn⟩ : ∃ nn, needN m0 = nn := ⟨_, rfl⟩
            have hnnI : (1 : Int) ≤ (nn : Int) ∧ (nn : Int) ≤ 100000 := by have h := needN_le m0 (by omega); rw [hnn] at h; omega
            have HND := Lib.hid (fun W => (show Calls Try.prog 10 #[.int .i64 (m0 : Int)] W (Same (.int .i64 (nn : Int)) W) from by have h := rneed_calls W (m0 : Int) (by omega) (by omega); rw [needZ_nat m0 (by omega), hnn] at h; exact h))
            have HNN := Lib.hid hnn
            by_cases hfit : n < k + nn
            · rw [if_pos (by rw [hnn]; exact hfit)] at hNX
              have HE := Lib.hid (show R = none by rw [HRF.out, openF_step n d f' T k _ hNX]; rfl)
              have hfI : (m : Int) < (a : Int) + 64 * (nn : Int) := by have := HMN.out; have := HAA.out; omega
              clear hNX hnn hfit
              go_wp2_with (first | go_big_skip | (go_at_call 10; (refine (HND.out wq).mono ?_); rintro e w2 ⟨rfl, rfl⟩))
              go_ret2
              exact ⟨HFQ.out, .inl ⟨HE.out, rfl⟩⟩
            · rw [if_neg (by rw [hnn]; exact hfit)] at hNX
              have hfI : ¬ (m : Int) < (a : Int) + 64 * (nn : Int) := by have := HMN.out; have := HAA.out; omega
              have HNX := Lib.hid hNX
              have HFIT := Lib.hid (show k + nn ≤ n by omega)
              obtain ⟨X, hX⟩ : ∃ X, textAt d k = X := ⟨_, rfl⟩
              have HXL := Lib.hid (show X.length = m0 from hX ▸ textAt_length (n := n) (by have := HM.out; have := HMN.out; omega) (by rw [hnn]; omega) hkn HM0.out (by omega))
              have HTG := Lib.hid (fun i (hi : i < m0) => (show ∃ t, X[i]? = some t ∧ (i < 19 → d[a + 12 + i]? = some t) ∧ (19 ≤ i → d[a + 64 + i - 19]? = some t) from by have h := textAt_get (n := n) (i := i) (by have := HM.out; have := HMN.out; omega) (by rw [hnn]; omega) hkn HM0.out (by omega) hi; rw [hX, ← HAA.out] at h; exact h))
              have HX := Lib.hid hX
              have HNEED := Lib.hid (show m0 ≤ 19 + 64 * (nn - 1) by have h := needN_le m0 (by omega); rw [hnn] at h; omega)
              clear hNX hnn hX hfit
              go_wp2_with (first | go_big_skip | (go_at_call 10; (refine (HND.out wq).mono ?_); rintro e w2 ⟨rfl, rfl⟩))
              go_loopg [8, 9] m0 (fun gg v u wi => ∃ (i L : Nat) (A2 : Option Addr) (c2 : Nat), i ≤ m0 ∧ gg = m0 - i ∧ u = .int .i64 (i : Int) ∧ L = i ∧ v = .slice A2 L c2 ∧ wi.ownsRow wq.heap.size 5 1 (.slice A2 L c2) L (u8s (X.take i)) ∧ Fr [] wq wi)
              case atStart => exact ⟨0, 0, none, 0, by omega, by omega, rfl, rfl, rfl, World.ownsRow_nil _ _ _ _, Fr.refl _ _⟩
              case round =>
                rename World => wi
                obtain ⟨i, L, A2, c2, hi, rfl, rfl, hLk, rfl, ho, hf⟩ := hrel
                have HLL := Lib.hid hLk; have HO := Lib.hid ho; have HF := Lib.hid hf
                have hiI : (0 : Int) ≤ (i : Int) ∧ (i : Int) ≤ 100000 := by omega
                clear hLk ho hf
                by_cases hlt : i < m0
                · obtain ⟨t, ht, ht1, ht2⟩ := HTG.out i hlt
                  have HT9 := Lib.hid (take_snoc ht)
                  have hi9 : i < 19 + 64 * (nn - 1) := by have := HNEED.out; omega
                  have hm9 : a + 64 * nn ≤ m := by have := HFIT.out; have := HMN.out; have := HAA.out; omega
                  by_cases h19 : i < 19
                  · have hcell := HCD.out wi (HFQ.out.trans HF.out) _ _ (ht1 h19)
                    have hix := fun w' => ix_off (P := Try.prog) (b := gd) (off := od) (n := m) (c := c) (j := a + 12 + i) Try.underlying26 Dk.sizeU8 ((a : Int) + 12 + (i : Int)) (by omega) (by omega) w'
                    have h19I : (i : Int) < 19 := by omega
                    clear ht ht1 ht2 hi9 hm9
                    go_wp2_with (at_builtin; have f5 := (Fr.refl [] wi).alloc (.cells #[.int .u8 ((t : UInt8).toNat : Int)] 5); refine wpList_app1 rfl (.tmp 64) (.tmp 72) 73 rfl rfl wq.heap.size (.slice A2 L c2) (X.take i) L rfl (own_fr HO.out f5 (by simp)) wi.heap.size 1 t rfl (Blk.new wi _ _) (by have := HLL.out; omega) (Nat.le_trans HF.out.size f5.size) ?_; intro v' w' ho' f'; obtain ⟨A', c', rfl⟩ := own_slice ho'; have HF' := Lib.hid ((HF.out.trans f5).trans' f' (fun q hq => .inr (HO.out.lt q (by simpa using hq)).1)); have HO' := Lib.hid ho'; clear ho' f' f5)
                    go_roundg (m0 - (i + 1))
                    case measure => omega
                    case rel => exact ⟨i + 1, L + 1, A', c', by omega, rfl, by go_num, by have := HLL.out; omega, rfl, by rw [HT9.out]; exact HO'.out, HF'.out⟩
                  · have hcell := HCD.out wi (HFQ.out.trans HF.out) _ _ (ht2 (by omega))
                    have hix := fun w' => ix_off (P := Try.prog) (b := gd) (off := od) (n := m) (c := c) (j := a + 64 + i - 19) Try.underlying26 Dk.sizeU8 ((a : Int) + 64 + (i : Int) - 19) (by omega) (by omega) w'
                    have h19I : ¬ (i : Int) < 19 := by omega
                    obtain ⟨jj, hjj⟩ : ∃ jj, a + 64 + i - 19 = jj := ⟨_, rfl⟩
                    rw [hjj] at hcell hix
                    clear ht ht1 ht2 hi9 hm9 hjj
                    go_wp2_with (at_builtin; have f5 := (Fr.refl [] wi).alloc (.cells #[.int .u8 ((t : UInt8).toNat : Int)] 5); refine wpList_app1 rfl (.tmp 74) (.tmp 83) 84 rfl rfl wq.heap.size (.slice A2 L c2) (X.take i) L rfl (own_fr HO.out f5 (by simp)) wi.heap.size 1 t rfl (Blk.new wi _ _) (by have := HLL.out; omega) (Nat.le_trans HF.out.size f5.size) ?_; intro v' w' ho' f'; obtain ⟨A', c', rfl⟩ := own_slice ho'; have HF' := Lib.hid ((HF.out.trans f5).trans' f' (fun q hq => .inr (HO.out.lt q (by simpa using hq)).1)); have HO' := Lib.hid ho'; clear ho' f' f5)
                    go_roundg (m0 - (i + 1))
                    case measure => omega
                    case rel => exact ⟨i + 1, L + 1, A', c', by omega, rfl, by go_num, by have := HLL.out; omega, rfl, by rw [HT9.out]; exact HO'.out, HF'.out⟩
                · obtain rfl : m0 = i := by omega
                  have hL := HLL.out
                  obtain rfl : m0 = L := hL.symm
                  have HOX := Lib.hid (show wi.ownsRow wq.heap.size 5 1 (.slice A2 m0 c2) m0 (u8s X) from by have h := HO.out; rwa [List.take_of_length_le (by have := HXL.out; omega)] at h)
                  clear HLL HO
                  obtain ⟨lp, hlp⟩ : ∃ lp, lastR T = lp := ⟨_, rfl⟩
                  have hlpl : lp.length = 32 := hlp ▸ lastR_length T
                  have HDL := Lib.hid (digF lp hlpl)
                  have HLI := Lib.hid (show Blk wi w.heap.size 41 (u8s lp).toArray from hlp ▸ HLQ.out.fr HF.out (by simp))
                  have HSC := Lib.hid (show Calls Try.prog 30 #[.agg (u8s lp).toArray, .int .i64 (T.length : Int), .slice A2 m0 c2] wi (OwnRN wi (64 * nn) (recB lp T.length X)) from by have h := sectors08_calls wi lp hlpl T.length (by omega) A2 m0 c2 X HXL.out (OwnN.rdd HOX.out) (by omega); rwa [HNN.out] at h)
                  have hTI : (0 : Int) ≤ (T.length : Int) ∧ (T.length : Int) ≤ 4096 := by omega
                  have HLP := Lib.hid (And.intro hlp hlpl)
                  clear hlp hlpl
                  go_upto_region 16 with (first
                    | (refine wpList_wanted (v := .agg (u8s lp).toArray) (by kernel_rfl) (exec_load_agg (ty := 41) (x := .tmp 5) rfl w.heap.size 0 rfl (u8s lp) _ (rd_row HLI.out) Try.underlying41 rfl HDL.out.2.1) ?_)
                    | (go_at_call 30; (refine HSC.out.mono ?_); rintro e w3 ⟨A3, c3, rfl, ho3, f3⟩; have HO3 := Lib.hid ho3; have HF3 := Lib.hid (HF.out.trans f3); have HO3X := Lib.hid (own_fr HOX.out f3 (by simp)); clear ho3 f3))
                  obtain ⟨sum, hsum⟩ : ∃ sum, sumR lp T.length X = sum := ⟨_, rfl⟩
                  have hsl : sum.length = 32 := hsum ▸ sumR_length _ _ _
                  obtain ⟨FB, hFB⟩ : ∃ FB, firstB T.length X sum = FB := ⟨_, rfl⟩
                  have HFBL := Lib.hid (show FB.length = 64 from hFB ▸ firstB_length _ _ _ hsl)
                  obtain ⟨SB, hSB⟩ : ∃ SB, secAt d k = SB := ⟨_, rfl⟩
                  have HSBL := Lib.hid (show SB.length = 64 from hSB ▸ secAt_length (n := n) (by have := HM.out; have := HMN.out; omega) hkn)
                  obtain ⟨qb, hqb⟩ : ∃ qb : Bool, (FB == SB) = !qb := ⟨!(FB == SB), by simp⟩
                  have hRE : recB lp T.length X = FB ++ pad64 (X.drop 19) := by unfold recB; rw [hsum, hFB]
                  obtain ⟨A5, hc5, hr5⟩ := ex_cuth A3 (64 * nn) c3 (by omega) (own_le HO3.out)
                  obtain ⟨A6, hc6, hr6⟩ := ex_cutm (some ⟨gd, od, none⟩) m c a ha64 hmc
                  have HR5 := Lib.hid (fun w9 (h9 : Fr [] w3 w9) => (show Rd w9 A5 FB from by
                    have h := hr5 w9 (recB lp T.length X) (by rw [recB_length _ _ _ (by rw [HXL.out]; omega), HXL.out, HNN.out]) ((OwnN.rdd HO3.out).fr h9 (by simp))
                    rwa [hRE, List.take_left' HFBL.out] at h))
                  have HR6 := Lib.hid (fun w9 (h9 : Fr [] w3 w9) => (show Rd w9 A6 SB from by
                    have h := hr6 w9 d HM.out (HA.out.fr ((HFQ.out.trans HF3.out).trans h9) (by simp))
                    rwa [HAA.out, (show (d.drop (64 * k)).take 64 = SB from hSB)] at h))
                  have HC5 := Lib.hid hc5; have HC6 := Lib.hid hc6; have HQB := Lib.hid hqb; have HSUM := Lib.hid (And.intro hsum hsl); have HFB := Lib.hid hFB; have HSB := Lib.hid hSB
                  clear hsum hsl hFB hSB hqb hRE hc5 hr5 hc6 hr6
                  have hS0 : OldW w3 w3.drew := (Fr.refl [] w3).drew
                  refine sqo_begin (w0 := w3) (by kernel_rfl) ?_
                  refine sqo_take (i := 0) (v := (.slice A3 (64 * nn) c3)) (d := 90) rfl (by kernel_rfl) (by kernel_rfl) (by kernel_rfl) (by kernel_rfl) (by kernel_rfl) (fun _ _ _ h => h) ?_ (by assumption) ?_
                  · intro w9 h9; kernel_rfl
                  try simp only [Act.put, List.setIfInBounds_toArray, List.set_cons_zero, List.set_cons_succ]
                  refine sqo_take (i := 1) (v := (.slice A5 64 c3)) (d := 91) rfl (by kernel_rfl) (by kernel_rfl) (by kernel_rfl) (by kernel_rfl) (by kernel_rfl) (fun _ _ _ h => h) ?_ (by assumption) ?_
                  · intro w9 h9; exact ex_slice_h rfl (by kernel_rfl) (by kernel_rfl) (HC5.out w9)
                  try simp only [Act.put, List.setIfInBounds_toArray, List.set_cons_zero, List.set_cons_succ]
                  refine sqo_take (i := 2) (v := (.string (str FB))) (d := 92) rfl (by kernel_rfl) (by kernel_rfl) (by kernel_rfl) (by kernel_rfl) (by kernel_rfl) (fun _ _ _ h => h) ?_ (by assumption) ?_
                  · intro w9 h9; exact exec_conv_m (c := c3) rfl Try.underlying26 Try.underlying5 Try.underlying9 HFBL.out (by kernel_rfl) (HR5.out w9 h9)
                  try simp only [Act.put, List.setIfInBounds_toArray, List.set_cons_zero, List.set_cons_succ]
                  refine sqo_take (i := 3) (v := (.slice (some ⟨gd, od, none⟩) m c)) (d := 93) rfl (by kernel_rfl) (by kernel_rfl) (by kernel_rfl) (by kernel_rfl) (by kernel_rfl) (fun _ _ _ h => h) ?_ (by assumption) ?_
                  · intro w9 h9; kernel_rfl
                  try simp only [Act.put, List.setIfInBounds_toArray, List.set_cons_zero, List.set_cons_succ]
                  refine sqo_take (i := 4) (v := (.int .i64 (a : Int))) (d := 94) rfl (by kernel_rfl) (by kernel_rfl) (by kernel_rfl) (by kernel_rfl) (by kernel_rfl) (fun _ _ _ h => h) ?_ (by assumption) ?_
                  · intro w9 h9; kernel_rfl
                  try simp only [Act.put, List.setIfInBounds_toArray, List.set_cons_zero, List.set_cons_succ]
                  refine sqo_take (i := 5) (v := (.int .i64 (a : Int))) (d := 95) rfl (by kernel_rfl) (by kernel_rfl) (by kernel_rfl) (by kernel_rfl) (by kernel_rfl) (fun _ _ _ h => h) ?_ (by assumption) ?_
                  · intro w9 h9; kernel_rfl
                  try simp only [Act.put, List.setIfInBounds_toArray, List.set_cons_zero, List.set_cons_succ]
                  refine sqo_take (i := 6) (v := (.int .i64 ((a : Int) + 64))) (d := 96) rfl (by kernel_rfl) (by kernel_rfl) (by kernel_rfl) (by kernel_rfl) (by kernel_rfl) (fun _ _ _ h => h) ?_ (by assumption) ?_
                  · intro w9 h9; first | (go_simp; done) | (go_simp; rw [IntKind.wrap_i64] <;> omega)
                  try simp only [Act.put, List.setIfInBounds_toArray, List.set_cons_zero, List.set_cons_succ]
                  refine sqo_take (i := 7) (v := (.slice A6 64 (c - a))) (d := 97) rfl (by kernel_rfl) (by kernel_rfl) (by kernel_rfl) (by kernel_rfl) (by kernel_rfl) (fun _ _ _ h => h) ?_ (by assumption) ?_
                  · intro w9 h9; exact ex_slice2 rfl (by kernel_rfl) (by kernel_rfl) (by kernel_rfl) (HC6.out w9)
                  try simp only [Act.put, List.setIfInBounds_toArray, List.set_cons_zero, List.set_cons_succ]
                  refine sqo_take (i := 8) (v := (.string (str SB))) (d := 98) rfl (by kernel_rfl) (by kernel_rfl) (by kernel_rfl) (by kernel_rfl) (by kernel_rfl) (fun _ _ _ h => h) ?_ (by assumption) ?_
                  · intro w9 h9; exact exec_conv_m (c := c - a) rfl Try.underlying26 Try.underlying5 Try.underlying9 HSBL.out (by kernel_rfl) (HR6.out w9 h9)
                  try simp only [Act.put, List.setIfInBounds_toArray, List.set_cons_zero, List.set_cons_succ]
                  refine sqo_take (i := 9) (v := (.bool qb)) (d := 99) rfl (by kernel_rfl) (by kernel_rfl) (by kernel_rfl) (by kernel_rfl) (by kernel_rfl) (fun _ _ _ h => h) ?_ (by assumption) ?_
                  · intro w9 h9; exact ex_neq_strW rfl (by kernel_rfl) (by kernel_rfl) HQB.out
                  try simp only [Act.put, List.setIfInBounds_toArray, List.set_cons_zero, List.set_cons_succ]
                  refine wpAnyH_done (by kernel_rfl) ?_ _
                  obtain ⟨w4, hw4⟩ : ∃ W, w3.drew = W := ⟨_, rfl⟩
                  have f4 : Fr [] w3 w4 := hw4 ▸ (Fr.refl [] w3).drew
                  rw [hw4]
                  have F4 := Lib.hid ((HFQ.out.trans HF3.out).trans f4)
                  have HT4 := Lib.hid (HTQ.out.frD (HF3.out.trans f4))
                  have HL4 := Lib.hid (show Blk w4 w.heap.size 41 (u8s lp).toArray from HLP.out.1 ▸ HLQ.out.fr (HF3.out.trans f4) (by simp))
                  have HO4 := Lib.hid (own_fr HO3X.out f4 (by simp))
                  have HLT := Lib.hid (And.intro HLQ.out.lt HTQ.out.lt)
                  have hNX := HNX.out
                  rw [HNN.out, HX.out, HLP.out.1, HSUM.out.1, HFB.out, HSB.out] at hNX
                  clear hw4 f4 hS0
                  cases qb with
                  | true =>
                    have hne : FB ≠ SB := by have h := HQB.out; simpa using h
                    rw [if_pos hne] at hNX
                    have HE := Lib.hid (show R = none by rw [HRF.out, openF_step n d f' T k _ hNX]; rfl)
                    clear hNX hne
                    go_wp2_with fail
                    go_ret2
                    exact ⟨F4.out, .inl ⟨HE.out, rfl⟩⟩
                  | false =>
                    have heq : FB = SB := by have h := HQB.out; simpa using h
                    rw [if_neg (by simpa using heq)] at hNX
                    have HE := Lib.hid (show R = openF n d f' (T ++ [X], k + nn) by rw [HRF.out, openF_step n d f' T k _ hNX]; rfl)
                    have HLS := Lib.hid (show lastR (T ++ [X]) = sum by rw [lastR_snoc, HLP.out.1, HSUM.out.1])
                    have HDS := Lib.hid (digF sum HSUM.out.2)
                    have HSP := Lib.hid (splice_whole lp sum HLP.out.2 HSUM.out.2)
                    have HFT := Lib.hid (show 0 + (u8s sum).length ≤ (u8s lp).length by simp [HLP.out.2, HSUM.out.2])
                    have HSU := Lib.hid (show Calls Try.prog 31 #[.agg (u8s lp).toArray, .int .i64 (T.length : Int), .slice A2 m0 c2] w4 (Agg (.agg (u8s sum).toArray) w4) from by have h := rsum08_calls w4 lp HLP.out.2 T.length (by omega) A2 m0 c2 X HXL.out (OwnN.rdd HO4.out) (by omega); rwa [HSUM.out.1] at h)
                    clear hNX heq
                    go_upto_region 19 with (first
                      | (refine wpList_wanted (v := .agg (u8s lp).toArray) (by kernel_rfl) (exec_load_agg (ty := 41) (x := .tmp 5) rfl w.heap.size 0 rfl (u8s lp) _ (rd_row HL4.out) Try.underlying41 rfl HDL.out.2.1) ?_)
                      | (go_at_call 31; (refine HSU.out.mono ?_); rintro e w5 ⟨rfl, f5⟩; have F5 := Lib.hid (F4.out.trans f5); have HT5 := Lib.hid (HT4.out.frD f5); have HL5 := Lib.hid (HL4.out.fr f5 (by simp)); have HO5 := Lib.hid (own_fr HO4.out f5 (by simp)); clear f5)
                      | (refine wpList_store_agg rfl 41 (.tmp 5) (.tmp 104) rfl w.heap.size 0 rfl (u8s sum) rfl (u8s lp) 41 HL5.out HFT.out (u8s_one _) HDS.out.2.1 ?_; rw [HSP.out]))
                    obtain ⟨w6, hw6⟩ : ∃ W, w5.setRow w.heap.size (u8s sum).toArray = W := ⟨_, rfl⟩
                    have f6 : Fr [w.heap.size] w5 w6 := hw6 ▸ Fr.setRow (Fr.refl _ w5) (.inl (by simp)) _
                    have F6 := Lib.hid (show Fr [] w w6 from hw6 ▸ Fr.setRow F5.out (.inr (Nat.le_refl _)) _)
                    have HL6 := Lib.hid (show Blk w6 w.heap.size 41 (u8s sum).toArray from hw6 ▸ HL5.out.setRow_ _)
                    have HT6 := Lib.hid (HT5.out.fr f6 (fun x hx => .inl hx) (fun q hq hm => by
                      have h1 := (HT5.out.lt q hq).1
                      have := HB1.out
                      have h2 : q = w.heap.size := (by simpa using hm)
                      omega))
                    have HO6 := Lib.hid (own_fr HO5.out f6 (fun q hq hm => by
                      obtain rfl : q = w.heap.size := by simpa using hm
                      exact own_blk_ne HO5.out HL5.out (by decide) hq))
                    rw [hw6]
                    clear f6 hw6
                    go_upto_region 20 with (at_builtin; have f7 := (Fr.refl [] w6).alloc (.cells #[.slice A2 m0 c2] 26); refine wpList_appTx1 rfl (.tmp 105) (.tmp 107) 108 rfl rfl B1 (.slice A1 T.length c1) [w.heap.size] T rfl (HT6.out.frD f7) X A2 m0 c2 w6.heap.size 1 HXL.out rfl (Blk.new w6 _ _) ((OwnN.rdd HO6.out).fr f7 (by simp)) (fun _ b off hA => ⟨fun hm => by have h1 := own_ge HO6.out b off hA; have h2 : b = w.heap.size := (by simpa using hm); have := HLT.out.1; omega, fun e => by have h1 := own_ge HO6.out b off hA; have := (HLT.out.2 b e.symm).2; omega⟩) (own_le HO6.out) (by omega) (by have := HB1.out; have h1 := (HL6.out.fr f7 (by simp)).lt; omega) ?_; intro v8 w8 ho8 f8 _)
                    obtain ⟨A8, c8, rfl, _, _⟩ := ho8.toIn
                    have HT8 := Lib.hid ho8
                    have HL8 := Lib.hid ((HL6.out.fr f7 (by simp)).fr f8 (by intro hm; have h1 := (HT6.out.lt _ (by simpa using hm)).1; have := HB1.out; omega))
                    have F8 := Lib.hid ((F6.out.trans f7).trans' f8 (fun q hq => .inr (by have h1 := (HT6.out.lt q (by simpa using hq)).1; have := HB1.out; omega)))
                    clear ho8 f8 f7
                    go_wp2_with (go_at_call 10; (refine (HND.out w8).mono ?_); rintro e w9 ⟨rfl, rfl⟩)
                    go_roundg (n - (k + nn))
                    case measure => have := HFIT.out; omega
                    case rel => exact ⟨k + nn, a + 64 * nn, f', T ++ [X], A8, c8, HFIT.out, by have := HAA.out; omega, rfl, by go_num, by rw [List.length_append, List.length_singleton], HT8.out, by rw [HLS.out]; exact HL8.out, F8.out, by have := HFU.out; omega, HE.out, by rw [List.length_append, List.length_singleton]; omega, fun t ht => by
                      rcases List.mem_append.1 ht with h | h
                      · exact HTS.out t h
                      · rw [List.mem_singleton.1 h, HXL.out]; omega⟩
      · have hb63 : ((q63.toNat : Int) == 1) = false := by
          rw [beq_eq_false_iff_ne]
          intro e
          exact h1 (UInt8.toNat_inj.1 (show q63.toNat = 1 by omega))
        have hNX2 := HNX.out
        rw [if_pos h1] at hNX2
        have HE := Lib.hid (show R = some (T, k) by rw [HRF.out, openF_step n d f' T k _ hNX2]; rfl)
        clear hNX2
        have hltI : (a : Int) < (m : Int) := by omega
        have hltN : a < m := by omega
        go_wp2_with go_big_skip
        all_goals (try exact absurd hltN (by assumption))
        go_ret2
        exact ⟨HF.out, .inr ⟨T, k, A1, c1, HE.out, rfl, HT.out.less (by have := HB1.out; omega) (by simp), by omega, HTS.out⟩⟩
    · obtain rfl : k = n := by omega
      have hNE : nextR k d T k = (false, 0, T, k) := by unfold nextR; rw [if_pos rfl]
      have HE := Lib.hid (show R = some (T, k) by rw [HRF.out, openF_step k d f' T k _ hNE]; rfl)
      have hge : ¬ (a : Int) < (m : Int) := by have := HMN.out; omega
      have hgeN : ¬ a < m := by omega
      go_wp2_with go_big_skip
      go_ret2
      exact ⟨HF.out, .inr ⟨T, k, A1, c1, HE.out, rfl, HT.out.less (by have := HB1.out; omega) (by simp), by omega, HTS.out⟩⟩
end Go.Proofs.Ytmmjihkcofgmmaa
