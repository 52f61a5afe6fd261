/- A digest out of its digits. -/
import Derived.Test.YtgjcnmlfoagnpaaShaX
import Derived.Test.YtgjcnmlfoagnpaaSeq2
import Derived.Test.YtgjcnmlfoagnpaaShelf
import Derived.Laws.ResultCell
namespace Go.Proofs.Ytgjcnmlfoagnpaa
open Go.RowKit
set_option linter.unusedVariables false

def digL : List UInt8 := [48, 49, 50, 51, 52, 53, 54, 55, 56, 57, 97, 98, 99, 100, 101, 102]
/-- a digit's number, or -1 -/
def hv (c : UInt8) : Int := Lib.indexByte digL c
theorem hv_all : ∀ n : Nat, n < 256 → (hv (UInt8.ofNat n) < 0 ∧ ¬ (48 ≤ n ∧ n ≤ 57 ∨ 97 ≤ n ∧ n ≤ 102)) ∨ (0 ≤ hv (UInt8.ofNat n) ∧ hv (UInt8.ofNat n) < 16 ∧ hexD (hv (UInt8.ofNat n)).toNat = UInt8.ofNat n ∧ (48 ≤ n ∧ n ≤ 57 ∨ 97 ≤ n ∧ n ≤ 102)) := by decide +kernel
theorem hv_any (c : UInt8) : (hv c < 0 ∧ ¬ (48 ≤ c.toNat ∧ c.toNat ≤ 57 ∨ 97 ≤ c.toNat ∧ c.toNat ≤ 102)) ∨ (0 ≤ hv c ∧ hv c < 16 ∧ hexD (hv c).toNat = c ∧ (48 ≤ c.toNat ∧ c.toNat ≤ 57 ∨ 97 ≤ c.toNat ∧ c.toNat ≤ 102)) := by
  have := hv_all c.toNat (UInt8.toNat_lt c)
  rwa [UInt8.ofNat_toNat] at this
theorem hv_hexD : ∀ n : Nat, n < 16 → hv (hexD n) = (n : Int) := by decide +kernel
theorem or16 : ∀ a : Nat, a < 16 → ∀ b : Nat, b < 16 → bits .or .i64 (16 * (a : Int)) (b : Int) = ((16 * a + b : Nat) : Int) := by decide +kernel
def hexV (s : List UInt8) (i : Nat) : UInt8 := UInt8.ofNat (16 * (hv (s.getD (2 * i) 0)).toNat + (hv (s.getD (2 * i + 1) 0)).toNat)
def decB (s : List UInt8) (k : Nat) : List UInt8 := (List.range k).map (hexV s)
theorem decB_length (s : List UInt8) (k : Nat) : (decB s k).length = k := by simp [decB]
theorem decB_succ (s : List UInt8) (k : Nat) : decB s (k + 1) = decB s k ++ [hexV s k] := by simp [decB, List.range_succ]
def frH (s : List UInt8) : List UInt8 × Bool := if s.length = 64 ∧ (∀ c ∈ s, 0 ≤ hv c) then (decB s 32, true) else (List.replicate 32 0, false)
theorem frH_bad (s : List UInt8) (c : UInt8) (hc : c ∈ s) (h : hv c < 0) : frH s = (List.replicate 32 0, false) := by
  rw [frH, if_neg]; rintro ⟨_, h2⟩; have := h2 c hc; omega
theorem results_cell_row_tmp {P : Program} {fn : Func} {p u : Tmp} {ty : TypeId} (h : fn.results = #[.cell p ty, .tmp u]) (tmps : Array Value) (w : World) (g : Nat) (t : TypeId) (cs : Array Value) (fr : Nat × Nat) (d : TypeDesc)
    (hp : tmps.getD p undef = .pointer (some ⟨g, 0, none⟩)) (hg : w.heap[g]? = some (.cells cs t fr))
    (hu : P.underlying ty = some d) (hd : (match d with | .struct _ | .array _ _ => true | _ => false) = true) (hi : (P.info? ty).map (·.size) = some cs.size) :
    (results fn tmps).run P w = .ok (.tuple #[.agg cs, tmps.getD u undef]) w := by
  rw [results_cell_tmp h, hp]
  simp [asAddr, run_loadVar_row w g t ty cs fr d hg hu hd hi, Result.andThen]
def HexR (w : World) (r : List UInt8 × Bool) (e : Ending) (w' : World) : Prop := e = .returned (.tuple #[.agg (u8s r.1).toArray, .bool r.2]) ∧ Fr [] w w'
def IxR (c : UInt8) (w : World) (e : Ending) (w' : World) : Prop := e = .returned (.int .i64 (hv c)) ∧ w = w'
theorem ixb_calls (c : UInt8) (w : World) : Calls Try.prog 26 #[DigS, .int .u8 (c.toNat : Int)] w (IxR c w) :=
  (Try.strings_IndexByte ⟨#[48, 49, 50, 51, 52, 53, 54, 55, 56, 57, 97, 98, 99, 100, 101, 102]⟩ (c.toNat : Int) w).mono fun e w' ⟨h1, h2⟩ => ⟨by rw [h1, Int.toNat_natCast, Nat.toUInt8, UInt8.ofNat_toNat]; rfl, h2.symm⟩
theorem ix_str {s : List UInt8} {j : Nat} {c : UInt8} (h : s[j]? = some c) (w : World) : (Instr.index 9 (.string (str s)) (.int .i64 (j : Int))).run Try.prog w = .ok (.int .u8 (c.toNat : Int)) w := by
  obtain ⟨hj, he⟩ := List.getElem?_eq_some_iff.1 h
  rw [run_index_string _ _ _ _ _ Try.underlying9, dif_pos ⟨by omega, by rw [str_size]; omega⟩]
  have : ((str s)[(j : Int).toNat]'(by rw [str_size]; omega)) = c := by
    rw [← he]; simp [str]; rfl
  rw [this]
theorem ex_ix {P : Program} {a : Act} {o : Oper} {t : TypeId} {x y : Operand} {u i v : Value} {w : World} (ho : o.op = .index t x y) (hx : a.eval x = u) (hy : a.eval y = i) (h : (Instr.index t u i).run P w = .ok v w) : (execOp a.eval o).run P w = .ok (.value v) w := by
  unfold execOp
  simp [ho, hx, hy, h]
theorem splice_all (l m : List UInt8) (h : m.length = l.length) : splice (u8s l) 0 (u8s m) = u8s m := by simp [splice, h]
theorem z32_eq : zs 32 = u8s (List.replicate 32 0) := rfl
set_option maxHeartbeats 4000000 in
theorem fromHex_calls (w : World) (s : List UInt8) : Calls Try.prog 20 #[.string (str s)] w (HexR w (frH s)) := by
  have HA := Lib.hid (show Blk ((w.alloc (.cells (zs 32).toArray 25)).alloc (.cells (zs 32).toArray 25)) w.heap.size 25 (zs 32).toArray from (Blk.new w 25 (zs 32).toArray).alloc _)
  have HB := Lib.hid (show Blk ((w.alloc (.cells (zs 32).toArray 25)).alloc (.cells (zs 32).toArray 25)) (w.heap.size + 1) 25 (zs 32).toArray by
    have := Blk.new (w.alloc (.cells (zs 32).toArray 25)) 25 (zs 32).toArray
    simpa using this)
  have HF := Lib.hid (((Fr.refl [] w).alloc (.cells (zs 32).toArray 25)).alloc (.cells (zs 32).toArray 25))
  have HSP := Lib.hid (show splice (zs 32) 0 (zs 32) = zs 32 from splice_32 (List.replicate 32 0) rfl)
  have HSI := Lib.hid (show (Try.prog.info? 25).map (·.size) = some (zs 32).length from dig_size (List.replicate 32 0) rfl)
  by_cases h64 : s.length = 64
  · have hsz : ((str s).size : Int) = 64 := by rw [str_size, h64]; rfl
    have H64 := Lib.hid h64
    clear h64
    go_enter Try.func20, Try.ntmps20
    go_wp2_with (refine wpList_alloc_agg rfl 25 rfl (zs 32).toArray arr32_zero ?_)
    go_loopg [12] 32 (fun gg u wr => ∃ k : Nat, k ≤ 32 ∧ gg = 32 - k ∧ u = .int .i64 k ∧ Blk wr w.heap.size 25 (zs 32).toArray ∧ Blk wr (w.heap.size + 1) 25 (u8s (decB s k ++ List.replicate (32 - k) 0)).toArray ∧ (∀ c ∈ s.take (2 * k), 0 ≤ hv c) ∧ Fr [] w wr)
    case atStart => exact ⟨0, by omega, by omega, rfl, HA.out, by rw [show decB s 0 ++ List.replicate (32 - 0) 0 = List.replicate 32 0 from rfl]; exact HB.out, by simp, HF.out⟩
    case round =>
      obtain ⟨k, hk, rfl, rfl, ha, hb, hg, hf⟩ := hrel
      have HA1 := Lib.hid ha; have HB1 := Lib.hid hb; have HG := Lib.hid hg; have HF1 := Lib.hid hf
      clear ha hb hg hf
      by_cases hlt : k < 32
      · obtain ⟨c1, hc1⟩ : ∃ x, s[2 * k]? = some x := ⟨s[2 * k]'(by have := H64.out; omega), by simp⟩
        obtain ⟨c2, hc2⟩ : ∃ x, s[2 * k + 1]? = some x := ⟨s[2 * k + 1]'(by have := H64.out; omega), by simp⟩
        have HI1 := Lib.hid (fun w' => ix_str hc1 w'); have HI2 := Lib.hid (fun w' => ix_str hc2 w')
        have HC1 := Lib.hid hc1; have HC2 := Lib.hid hc2
        have hkI : (0 : Int) ≤ (k : Int) ∧ (k : Int) < 32 := by omega
        clear hc1 hc2
        go_wp2_with fail
        refine seq_begin (by kernel_rfl) ?_
        refine seq_take (i := 0) (v := (.string (str s))) (d := 15) rfl (by kernel_rfl) (by kernel_rfl) (by kernel_rfl) (by kernel_rfl) (by kernel_rfl) (fun _ _ _ h => h) ?_ ?_
        · intro w9; kernel_rfl
        try simp only [Act.put, List.setIfInBounds_toArray, List.set_cons_zero, List.set_cons_succ]
        refine seq_take (i := 1) (v := (.int .i64 (k : Int))) (d := 16) rfl (by kernel_rfl) (by kernel_rfl) (by kernel_rfl) (by kernel_rfl) (by kernel_rfl) (fun _ _ _ h => h) ?_ ?_
        · intro w9; kernel_rfl
        try simp only [Act.put, List.setIfInBounds_toArray, List.set_cons_zero, List.set_cons_succ]
        refine seq_take (i := 2) (v := (.int .i64 ((2 * k : Nat) : Int))) (d := 17) rfl (by kernel_rfl) (by kernel_rfl) (by kernel_rfl) (by kernel_rfl) (by kernel_rfl) (fun _ _ _ h => h) ?_ ?_
        · intro w9; go_simp; rw [IntKind.wrap_i64]; omega
        try simp only [Act.put, List.setIfInBounds_toArray, List.set_cons_zero, List.set_cons_succ]
        refine seq_take (i := 3) (v := (.int .u8 (c1.toNat : Int))) (d := 18) rfl (by kernel_rfl) (by kernel_rfl) (by kernel_rfl) (by kernel_rfl) (by kernel_rfl) (fun _ _ _ h => h) ?_ ?_
        · intro w9; exact ex_ix rfl (by kernel_rfl) (by kernel_rfl) (HI1.out w9)
        try simp only [Act.put, List.setIfInBounds_toArray, List.set_cons_zero, List.set_cons_succ]
        refine seq_take (i := 5) (v := (.string (str s))) (d := 20) rfl (by kernel_rfl) (by kernel_rfl) (by kernel_rfl) (by kernel_rfl) (by kernel_rfl) (fun _ _ _ h => h) ?_ ?_
        · intro w9; kernel_rfl
        try simp only [Act.put, List.setIfInBounds_toArray, List.set_cons_zero, List.set_cons_succ]
        refine seq_take (i := 6) (v := (.int .i64 (k : Int))) (d := 21) rfl (by kernel_rfl) (by kernel_rfl) (by kernel_rfl) (by kernel_rfl) (by kernel_rfl) (fun _ _ _ h => h) ?_ ?_
        · intro w9; kernel_rfl
        try simp only [Act.put, List.setIfInBounds_toArray, List.set_cons_zero, List.set_cons_succ]
        refine seq_take (i := 7) (v := (.int .i64 ((2 * k : Nat) : Int))) (d := 22) rfl (by kernel_rfl) (by kernel_rfl) (by kernel_rfl) (by kernel_rfl) (by kernel_rfl) (fun _ _ _ h => h) ?_ ?_
        · intro w9; go_simp; rw [IntKind.wrap_i64]; omega
        try simp only [Act.put, List.setIfInBounds_toArray, List.set_cons_zero, List.set_cons_succ]
        refine seq_take (i := 8) (v := (.int .i64 ((2 * k + 1 : Nat) : Int))) (d := 23) rfl (by kernel_rfl) (by kernel_rfl) (by kernel_rfl) (by kernel_rfl) (by kernel_rfl) (fun _ _ _ h => h) ?_ ?_
        · intro w9; go_simp; rw [IntKind.wrap_i64]; omega
        try simp only [Act.put, List.setIfInBounds_toArray, List.set_cons_zero, List.set_cons_succ]
        refine seq_take (i := 9) (v := (.int .u8 (c2.toNat : Int))) (d := 24) rfl (by kernel_rfl) (by kernel_rfl) (by kernel_rfl) (by kernel_rfl) (by kernel_rfl) (fun _ _ _ h => h) ?_ ?_
        · intro w9; exact ex_ix rfl (by kernel_rfl) (by kernel_rfl) (HI2.out w9)
        try simp only [Act.put, List.setIfInBounds_toArray, List.set_cons_zero, List.set_cons_succ]
        refine seq_only (i := 4) rfl (by kernel_rfl) (by kernel_rfl) ?_
        have hr4 := fun (a : Act) (o : Oper) (K : Act → World → Prop) (Q : Exit → Act → World → Prop) => @sq_call Try.prog Q a o wr.drew K (IxR c1 wr.drew) 26 #[DigS, .int .u8 (c1.toNat : Int)] 19
        refine hr4 _ _ _ _ ?_ ?_ ?_ ?_
        · kernel_rfl
        · kernel_rfl
        · exact ixb_calls c1 wr.drew
        rintro e w9 ⟨rfl, rfl⟩
        refine ⟨_, rfl, ?_⟩
        clear hr4
        try simp only [Act.put, List.setIfInBounds_toArray, List.set_cons_zero, List.set_cons_succ]
        refine seq_only (i := 10) rfl (by kernel_rfl) (by kernel_rfl) ?_
        have hr10 := fun (a : Act) (o : Oper) (K : Act → World → Prop) (Q : Exit → Act → World → Prop) => @sq_call Try.prog Q a o wr.drew K (IxR c2 wr.drew) 26 #[DigS, .int .u8 (c2.toNat : Int)] 25
        refine hr10 _ _ _ _ ?_ ?_ ?_ ?_
        · kernel_rfl
        · kernel_rfl
        · exact ixb_calls c2 wr.drew
        rintro e w9 ⟨rfl, rfl⟩
        refine ⟨_, rfl, ?_⟩
        clear hr10
        try simp only [Act.put, List.setIfInBounds_toArray, List.set_cons_zero, List.set_cons_succ]
        refine seq_take (i := 11) (v := (.int .i64 (hv c1))) (d := 6) rfl (by kernel_rfl) (by kernel_rfl) (by kernel_rfl) (by kernel_rfl) (by kernel_rfl) (fun _ _ _ h => h) ?_ ?_
        · intro w9; kernel_rfl
        try simp only [Act.put, List.setIfInBounds_toArray, List.set_cons_zero, List.set_cons_succ]
        refine seq_take (i := 12) (v := (.int .i64 (hv c2))) (d := 7) rfl (by kernel_rfl) (by kernel_rfl) (by kernel_rfl) (by kernel_rfl) (by kernel_rfl) (fun _ _ _ h => h) ?_ ?_
        · intro w9; kernel_rfl
        try simp only [Act.put, List.setIfInBounds_toArray, List.set_cons_zero, List.set_cons_succ]
        refine wpAnyH_done (by kernel_rfl) ?_ _

        rcases hv_any c1 with ⟨h1, h2⟩ | ⟨h1, h2, h3, _⟩
        · have HZ := Lib.hid (frH_bad s c1 (List.mem_of_getElem? HC1.out) h1)
          clear h2
          go_wp2_with (first
            | (refine wpList_store_agg rfl 25 (.tmp 2) (.tmp 32) rfl w.heap.size 0 rfl (zs 32) rfl (zs 32) 25 HA1.out (by simp [zs_length]) (u8s_one _) HSI.out ?_))
          have hb6 := HA1.out.setRow_ (splice (zs 32) 0 (zs 32)).toArray
          rw [HSP.out] at hb6 ⊢
          try simp only [Exit.inBlock, Exit.then]
          refine bodyPost_ret (results_cell_row_tmp (p := 2) (ty := 25) rfl _ _ w.heap.size 25 (zs 32).toArray (0, 0) _ rfl hb6 Try.underlying25 rfl (by rw [List.size_toArray]; exact HSI.out)) rfl ?_
          rw [HZ.out]
          exact ⟨rfl, HF1.out.drew.setRow (.inr (Nat.le_refl _)) _⟩
        · rcases hv_any c2 with ⟨g1, g2⟩ | ⟨g1, g2, g3, _⟩
          · have HZ := Lib.hid (frH_bad s c2 (List.mem_of_getElem? HC2.out) g1)
            clear h3 g2
            go_wp2_with (first
              | (refine wpList_store_agg rfl 25 (.tmp 2) (.tmp 32) rfl w.heap.size 0 rfl (zs 32) rfl (zs 32) 25 HA1.out (by simp [zs_length]) (u8s_one _) HSI.out ?_))
            have hb6 := HA1.out.setRow_ (splice (zs 32) 0 (zs 32)).toArray
            rw [HSP.out] at hb6 ⊢
            try simp only [Exit.inBlock, Exit.then]
            refine bodyPost_ret (results_cell_row_tmp (p := 2) (ty := 25) rfl _ _ w.heap.size 25 (zs 32).toArray (0, 0) _ rfl hb6 Try.underlying25 rfl (by rw [List.size_toArray]; exact HSI.out)) rfl ?_
            rw [HZ.out]
            exact ⟨rfl, HF1.out.drew.setRow (.inr (Nat.le_refl _)) _⟩
          · clear h3 g3
            have hcl : (wr.drew).cell? ⟨w.heap.size + 1, k, none⟩ = some (u8v 0) := by
              have := HB1.out.drew.cell k
              rw [this, List.getElem?_toArray, u8s_get, List.getElem?_append_right (by rw [decB_length]; exact Nat.le_refl k), decB_length, Nat.sub_self, List.getElem?_replicate, if_pos (by omega)]; rfl
            have hfz : (wr.drew).frozen? ⟨w.heap.size + 1, k, none⟩ = false := HB1.out.drew.frozen k
            go_wp2_with fail
            go_roundg (32 - (k + 1))
            case measure => omega
            case rel =>
              have e16 : bits .or .i64 (hv c1 * 16) (hv c2) % 256 = ((hexV s k).toNat : Int) := by
                obtain ⟨a, ha⟩ := Int.eq_ofNat_of_zero_le h1
                obtain ⟨b, hb⟩ := Int.eq_ofNat_of_zero_le g1
                have hx : hexV s k = UInt8.ofNat (16 * a + b) := by
                  unfold hexV
                  rw [List.getD, List.getD, HC1.out, HC2.out]
                  simp [ha, hb]
                have := or16 a (by omega) b (by omega)
                rw [ha, hb, Int.mul_comm, this, hx, UInt8.toNat_ofNat']
                rfl
              rw [e16]
              refine ⟨k + 1, by omega, rfl, by go_num, (HA1.out.far (by simp) _).drew, ?_, ?_, (HF1.out.setCell (.inr (by simp)) _).drew⟩
              · have := (HB1.out.set_ k (u8v (hexV s k))).drew
                rw [List.setIfInBounds_toArray] at this
                have e : (u8s (decB s k ++ List.replicate (32 - k) 0)).set k (u8v (hexV s k)) = u8s (decB s (k + 1) ++ List.replicate (32 - (k + 1)) 0) := by
                  rw [decB_succ, show 32 - k = (32 - (k + 1)) + 1 by omega, List.replicate_succ, u8s_append, u8s_append, u8s_append, List.set_append_right _ _ (by simp [decB_length])]
                  simp [decB_length, u8s]
                rw [e] at this
                exact this
              · intro c hc
                rw [show 2 * (k + 1) = 2 * k + 1 + 1 by omega, List.take_add_one, List.take_add_one, HC1.out, HC2.out] at hc
                simp at hc
                rcases hc with hc | rfl | rfl
                · exact HG.out c hc
                · exact h1
                · exact g1
      · obtain rfl : k = 32 := by omega
        have hz : frH s = (decB s 32, true) := by
          rw [frH, if_pos ⟨H64.out, fun c hc => HG.out c (by rw [List.take_of_length_le (by have := H64.out; omega)]; exact hc)⟩]
        have HZ := Lib.hid hz
        have hb9 := HB1.out
        rw [Nat.sub_self, List.replicate_zero, List.append_nil] at hb9
        have hl32 := decB_length s 32
        obtain ⟨D, hD⟩ : ∃ D, decB s 32 = D := ⟨_, rfl⟩
        rw [hD] at hb9 hz HZ hl32
        have HB9 := Lib.hid hb9
        have HSI9 := Lib.hid (dig_size D hl32)
        have HSP9 := Lib.hid (splice_32 D hl32)
        have HC := Lib.hid (show ∀ j v, (u8s D)[j]? = some v → wr.cell? ⟨w.heap.size + 1, 0 + j, none⟩ = some v from fun j v hv => by rw [HB9.out.cell, List.getElem?_toArray, Nat.zero_add]; exact hv)
        have HFT := Lib.hid (show 0 + (u8s D).length ≤ (zs 32).length by simp [zs_length, hl32])
        clear hb9 hz hD hl32
        go_wp2_with (first
          | (refine wpList_load_agg rfl 25 (.tmp 4) rfl (w.heap.size + 1) 0 rfl (u8s D) _ HC.out Try.underlying25 rfl HSI9.out ?_)
          | (refine wpList_store_agg rfl 25 (.tmp 2) (.tmp 41) rfl w.heap.size 0 rfl (u8s D) rfl (zs 32) 25 HA1.out HFT.out (u8s_one _) HSI9.out ?_))
        have hb6 := HA1.out.setRow_ (splice (zs 32) 0 (u8s D)).toArray
        rw [HSP9.out] at hb6 ⊢
        try simp only [Exit.inBlock, Exit.then]
        refine bodyPost_ret (results_cell_row_tmp (p := 2) (ty := 25) rfl _ _ w.heap.size 25 (u8s D).toArray (0, 0) _ rfl hb6 Try.underlying25 rfl (by rw [List.size_toArray]; exact HSI9.out)) rfl ?_
        rw [HZ.out]
        exact ⟨rfl, HF1.out.setRow (.inr (Nat.le_refl _)) _⟩
  · have hne : s.length ≠ 64 := h64
    have HZ := Lib.hid (show frH s = (List.replicate 32 0, false) by rw [frH, if_neg (by omega)])
    have hsz : ((str s).size : Int) ≠ 64 := by rw [str_size]; omega
    have HC := Lib.hid (show ∀ j v, (zs 32)[j]? = some v → ((w.alloc (.cells (zs 32).toArray 25)).alloc (.cells (zs 32).toArray 25)).cell? ⟨w.heap.size + 1, 0 + j, none⟩ = some v from fun j v hv => by rw [HB.out.cell, List.getElem?_toArray, Nat.zero_add]; exact hv)
    go_enter Try.func20, Try.ntmps20
    go_wp2_with (first
      | (refine wpList_alloc_agg rfl 25 rfl (zs 32).toArray arr32_zero ?_)
      | (refine wpList_load_agg rfl 25 (.tmp 4) rfl (w.heap.size + 1) 0 rfl (zs 32) _ HC.out Try.underlying25 rfl HSI.out ?_)
      | (refine wpList_store_agg rfl 25 (.tmp 2) (.tmp 11) rfl w.heap.size 0 rfl (zs 32) rfl (zs 32) 25 HA.out (by simp [zs_length]) (u8s_one _) HSI.out ?_))
    have hb6 := HA.out.setRow_ (splice (zs 32) 0 (zs 32)).toArray
    rw [HSP.out] at hb6 ⊢
    refine bodyPost_ret (results_cell_row_tmp (p := 2) (ty := 25) rfl _ _ w.heap.size 25 (zs 32).toArray (0, 0) _ rfl hb6 Try.underlying25 rfl (by rw [List.size_toArray]; exact HSI.out)) rfl ?_
    rw [HZ.out]
    exact ⟨rfl, HF.out.setRow (.inr (Nat.le_refl _)) _⟩
end Go.Proofs.Ytgjcnmlfoagnpaa
