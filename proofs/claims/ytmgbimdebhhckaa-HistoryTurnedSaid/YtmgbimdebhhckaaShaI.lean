/- Preimages; digits. -/
import Derived.Test.YtmgbimdebhhckaaShaH
namespace Go.Proofs.Ytmgbimdebhhckaa
open Go.RowKit

/-- the preimage of a tag and texts -/
def preB (tag : UInt8) (ts : List (List UInt8)) : List UInt8 := tag :: ts.flatMap (fun t => eightB t.length ++ t)
theorem preB_step (tag : UInt8) (ts : List (List UInt8)) (k : Nat) (t : List UInt8) (h : ts[k]? = some t) : (preB tag (ts.take k) ++ eightB t.length) ++ t = preB tag (ts.take (k + 1)) := by
  obtain ⟨hk, he⟩ := List.getElem?_eq_some_iff.1 h
  rw [List.take_succ_eq_append_getElem hk]
  simp [preB, he]
theorem preB_take_le (tag : UInt8) (ts : List (List UInt8)) (k : Nat) : (preB tag (ts.take k)).length ≤ (preB tag ts).length := by
  have e : preB tag ts = preB tag (ts.take k) ++ (ts.drop k).flatMap (fun t => eightB t.length ++ t) := by
    unfold preB
    rw [List.cons_append, ← List.flatMap_append, List.take_append_drop]
  rw [e, List.length_append]; omega
/-- texts, as a slice of slices has them -/
def TxIn (w : World) (TA : Option Addr) (ts : List (List UInt8)) : Prop :=
  ∀ i t, ts[i]? = some t → ∃ b off A c, TA = some ⟨b, off, none⟩ ∧ b < w.heap.size ∧ w.cell? ⟨b, off + i, none⟩ = some (.slice A t.length c) ∧ Rd w A t
theorem TxIn.fr {w w' : World} {TA : Option Addr} {ts : List (List UInt8)} (h : TxIn w TA ts) (hf : Fr [] w w') : TxIn w' TA ts := fun i t ht => by
  obtain ⟨b, off, A, c, hA, hb, hc, hr⟩ := h i t ht
  refine ⟨b, off, A, c, hA, Nat.lt_of_lt_of_le hb hf.size, ?_, hr.fr hf (by simp)⟩
  rw [hf.cell (p := ⟨b, off + i, none⟩) hb (by simp)]; exact hc
theorem TxIn.nil (w : World) (TA : Option Addr) : TxIn w TA [] := fun i t h => by simp at h
theorem own_one (w : World) (base : Nat) (hb : base ≤ w.heap.size) (x : UInt8) : (w.alloc (.cells #[u8v x] 5)).ownsRow base 5 1 (.slice (some ⟨w.heap.size, 0, none⟩) 1 1) 1 (u8s [x]) :=
  ⟨by simp, .inr ⟨w.heap.size, 1, #[u8v x], rfl, hb, heap_alloc_new w _, by omega, by unfold maxLen; omega, by simp, by simp [u8s]⟩⟩
theorem ix_sl0 {P : Program} {t e : TypeId} (ht : P.underlying t = some (.slice e)) (hi : (P.info? e).map (·.size) = some 1) {b off n c j : Nat} (hj : j < n) (w : World) :
    (Instr.indexAt t (.slice (some ⟨b, off, none⟩) n c) (.int .i64 (j : Int))).run P w = .ok (.pointer (some ⟨b, off + j, none⟩)) w := by
  simpa using run_index_slice' (P := P) w ht hi (n := n) (c := c) rfl hj
theorem size_sl : (Try.prog.info? 45).map (·.size) = some 1 := by kernel_rfl
set_option maxHeartbeats 2000000 in
theorem pre_calls (w : World) (tag : UInt8) (TA : Option Addr) (n c : Nat) (ts : List (List UInt8)) (hn : ts.length = n) (hT : TxIn w TA ts) (hbd : (preB tag ts).length ≤ 100000000) (hnb : n ≤ 100000000) :
    Calls Try.prog 34 #[.int .u8 (tag.toNat : Int), .slice TA n c] w (OwnB w (preB tag ts)) := by
  have HT := Lib.hid hT; have HN := Lib.hid hn
  have HO0 := Lib.hid (own_one w w.heap.size (Nat.le_refl _) tag)
  have HF0 := Lib.hid ((Fr.refl [] w).alloc (.cells #[u8v tag] 5))
  have hnI : (n : Int) ≤ 100000000 := by omega
  clear hT hn
  go_enter Try.func34, Try.ntmps34
  go_wp2_with fail
  go_loopg [5, 12] n (fun gg v u wr => ∃ (k g c' : Nat), k ≤ n ∧ gg = n - k ∧ u = .int .i64 k ∧ v = .slice (some ⟨g, 0, none⟩) (preB tag (ts.take k)).length c' ∧
    wr.ownsRow w.heap.size 5 1 (.slice (some ⟨g, 0, none⟩) (preB tag (ts.take k)).length c') (preB tag (ts.take k)).length (u8s (preB tag (ts.take k))) ∧ Fr [] w wr)
  case atStart => exact ⟨0, w.heap.size, 1, by omega, by omega, rfl, rfl, HO0.out, HF0.out⟩
  case round =>
    obtain ⟨k, g, c', hk, rfl, rfl, rfl, ho, hf⟩ := hrel
    have HO := Lib.hid ho; have HF := Lib.hid hf
    clear ho hf
    by_cases hlt : k < n
    · obtain ⟨t, ht⟩ : ∃ t, ts[k]? = some t := ⟨ts[k]'(by have := HN.out; omega), by simp⟩
      obtain ⟨b, off, A, ct, hA, hbw, hc0, hr⟩ := HT.out k t ht
      subst hA
      have hc : wr.cell? ⟨b, off + k, none⟩ = some (.slice A t.length ct) := by rw [HF.out.cell (p := ⟨b, off + k, none⟩) hbw (by simp)]; exact hc0
      clear hc0
      have hstep := preB_step tag ts k t ht
      have hle := preB_take_le tag ts (k + 1)
      rw [← hstep] at hle
      have hix := fun w' => ix_sl0 (P := Try.prog) (b := b) (off := off) (n := n) (c := c) Try.underlying37 size_sl hlt w'
      obtain ⟨L, hL⟩ : ∃ L, (preB tag (ts.take k)).length = L := ⟨_, rfl⟩
      obtain ⟨m, hm⟩ : ∃ m, t.length = m := ⟨_, rfl⟩
      rw [hm] at hc
      rw [List.length_append, List.length_append, eightB_length, hL, hm] at hle
      rw [hL]
      have HO1 := Lib.hid HO.out
      rw [hL] at HO1
      have hmI : (m : Int) ≤ 100000000 := by omega
      have hL8 : L + 8 ≤ 1000000000 := by omega
      have hL8m : L + 8 + m ≤ 1000000000 := by omega
      have HEI := Lib.hid (eight_any wr (m : Int) m rfl (by omega))
      have HE8 := Lib.hid (eightB_length m)
      have HSTEP := Lib.hid hstep; have HM := Lib.hid hm; have HL := Lib.hid hL; have HR := Lib.hid hr
      have HHS := Lib.hid HF.out.size
      have hkI : (0 : Int) ≤ (k : Int) ∧ (k : Int) < (n : Int) := by omega
      clear hstep hm hL hr ht hle hbw
      go_wp2_with (first
        | (go_at_call 45; (with_reducible refine HEI.out.mono ?_); rintro e w5 ⟨A5, c5, rfl, ho5, hf5⟩; rw [HE8.out] at ho5 ⊢; have HO5 := Lib.hid ho5; have HF5 := Lib.hid hf5; have HO6 := Lib.hid (own_fr HO1.out hf5 (by simp)); clear ho5 hf5 hc)
        | (at_builtin; refine growU8 rfl (.tmp 16) (.tmp 20) rfl w.heap.size _ L _ (preB tag (ts.take k)) rfl HO6.out A5 8 c5 (eightB m) rfl HE8.out (ownB_rd HO5.out) hL8 (Nat.le_trans HHS.out HF5.out.size) ?_; intro g7 c7 w7 ho7 hf7; have HO7 := Lib.hid ho7; have HF7 := Lib.hid ((HF.out.trans HF5.out).trans' hf7 (fun x hx => by simp at hx; subst hx; exact .inr (ownB_at HO6.out).2.1)); clear ho7 hf7)
        | (at_builtin; refine growU8 rfl (.tmp 21) (.tmp 22) rfl w.heap.size _ (L + 8) _ (preB tag (ts.take k) ++ eightB m) rfl HO7.out A m ct t rfl HM.out (HR.out.fr HF7.out (by simp)) hL8m HF7.out.size ?_; intro g8 c8 w8 ho8 hf8; have HO8 := Lib.hid ho8; have HF8 := Lib.hid (HF7.out.trans' hf8 (fun x hx => by simp at hx; subst hx; exact .inr (ownB_at HO7.out).2.1)); clear ho8 hf8))
      go_roundg (n - (k + 1))
      case measure => omega
      case rel =>
        have e := HSTEP.out
        rw [HM.out] at e
        have el : (preB tag (ts.take (k + 1))).length = L + 8 + m := by rw [← e, List.length_append, List.length_append, eightB_length, HL.out, HM.out]
        have ho := HO8.out
        rw [e] at ho
        exact ⟨k + 1, g8, c8, by omega, rfl, by go_num, by rw [el], by rw [el]; exact ho, HF8.out⟩
    · obtain rfl : k = n := by omega
      go_wp2_with fail
      go_ret
      have e : ts.take k = ts := List.take_of_length_le (by have := HN.out; omega)
      have ho := HO.out
      rw [e] at ho ⊢
      exact OwnB.mk' ho HF.out

theorem rd_two (w : World) (x y : UInt8) (t : TypeId) : Rd (w.alloc (.cells #[u8v x, u8v y] t)) (some ⟨w.heap.size, 0, none⟩) [x, y] := fun _ =>
  ⟨_, 0, rfl, fun j z hz => by
    have hb := Blk.new w t #[u8v x, u8v y]
    rw [hb.cell]
    match j with
    | 0 => simp at hz; subst hz; rfl
    | 1 => simp at hz; subst hz; rfl
    | j + 2 => simp at hz⟩
theorem hash_calls (w : World) (tag : UInt8) (TA : Option Addr) (n c : Nat) (ts : List (List UInt8)) (hn : ts.length = n) (hT : TxIn w TA ts) (hbd : (preB tag ts).length ≤ 100000000) (hnb : n ≤ 100000000) :
    Calls Try.prog 19 #[.int .u8 (tag.toNat : Int), .slice TA n c] w (Agg (.agg (u8s (shaB (preB tag ts))).toArray) w) := by
  have HB := Lib.hid (Blk.new w 25 (zs 32).toArray)
  have hf0 := (Fr.refl [] w).alloc (.cells (zs 32).toArray 25)
  have HPC := Lib.hid (pre_calls (w.alloc (.cells (zs 32).toArray 25)) tag TA n c ts hn (hT.fr hf0) hbd hnb)
  have HF0 := Lib.hid hf0; have HBD := Lib.hid hbd
  have hl32 := shaB_length (preB tag ts)
  have HSP := Lib.hid (splice_32 _ hl32)
  have HSI := Lib.hid (dig_size _ hl32)
  have HFT := Lib.hid (show 0 + (u8s (shaB (preB tag ts))).length ≤ (zs 32).length by simp [zs_length, hl32])
  clear hf0 hn hl32 hT hbd
  go_enter Try.func19, Try.ntmps19
  go_wp2_with (first
    | (refine wpList_alloc_agg rfl 25 rfl (zs 32).toArray arr32_zero ?_)
    | (go_at_call 34; (with_reducible refine HPC.out.mono ?_); rintro e w1 ⟨A1, c1, rfl, ho1, hf1⟩; have HF1 := Lib.hid hf1; have HB1 := Lib.hid (HB.out.fr hf1 (by simp)); have HS := Lib.hid (sum_calls w1 A1 _ c1 _ rfl (ownB_rd ho1) HBD.out); clear ho1 hf1)
    | (go_at_call 20; (with_reducible refine HS.out.mono ?_); rintro e w3 ⟨rfl, hf3⟩; have HF3 := Lib.hid hf3; have HB3 := Lib.hid (HB1.out.fr hf3 (by simp)); clear hf3)
    | (refine wpList_store_agg rfl 25 (.tmp 4) (.tmp 8) rfl w.heap.size 0 rfl (u8s (shaB (preB tag ts))) rfl (zs 32) 25 HB3.out HFT.out (u8s_one _) HSI.out ?_))
  have hb6 := HB3.out.setRow_ (splice (zs 32) 0 (u8s (shaB (preB tag ts)))).toArray
  rw [HSP.out] at hb6 ⊢
  refine bodyPost_ret (results_cell_row (p := 4) (ty := 25) rfl _ _ w.heap.size 25 (u8s (shaB (preB tag ts))).toArray (0, 0) _ rfl hb6 Try.underlying25 rfl (by rw [List.size_toArray]; exact HSI.out)) rfl ?_
  exact ⟨rfl, (((HF0.out.trans HF1.out).trans HF3.out)).setRow (.inr (Nat.le_refl _)) _⟩

theorem run_index_aggU8 {P : Program} {t e : TypeId} {n : Nat} (ht : P.underlying t = some (.array n e)) (he : P.underlying e = some (.int .u8)) (hi : (P.info? e).map (·.size) = some 1) (l : List UInt8) (hl : l.length = n) (k : Nat) (x : UInt8) (hx : l[k]? = some x) (w : World) :
    (Instr.index t (.agg (u8s l).toArray) (.int .i64 (k : Int))).run P w = .ok (u8v x) w := by
  obtain ⟨hk, _⟩ := List.getElem?_eq_some_iff.1 hx
  have h0 : (0 : Int) ≤ k ∧ (k : Int) < n := by omega
  have hkn : k < n := by omega
  have hg : (u8s l)[k]? = some (u8v x) := by rw [u8s_get, hx]; rfl
  cases hq : P.info? e with
  | none => simp [hq] at hi
  | some i =>
    have hs : i.size = 1 := by simpa [hq] using hi
    simp [Instr.index, asIntOf, run_underlying ht, h0, sizeOf, typeInfo, hq, hs, part, isAgg, run_underlying he, go_sem, hkn, hg]

theorem sq_appU8 {Q : Exit → Act → World → Prop} {o : Oper} {a : Act} {w : World} {K : Act → World → Prop} (hgd : o.guard = none) (s x : Operand) (d : Tmp) (hd : o.dst = some d)
    (ho : o.op = .call { callee := .builtin .append, args := #[s, x], argTypes := #[45, 45] })
    (base : Nat) (v : Value) (n : Nat) (xs : List UInt8) (hs : a.eval s = v) (hown : w.ownsRow base 5 1 v n (u8s xs))
    (A : Option Addr) (m c : Nat) (l : List UInt8) (hx : a.eval x = .slice A m c) (hl : l.length = m) (hr : Rd w A l) (hbd : n + m ≤ 1000000000) (hbase : base ≤ w.heap.size)
    (h : ∀ A' c' w', w'.ownsRow base 5 1 (.slice A' (n + m) c') (n + m) (u8s (xs ++ l)) → Fr v.ownBlock.toList w w' → K (a.put (some d) (.slice A' (n + m) c')) w') : Oper.wp Try.prog o a w K Q := by
  have hw : Region.wanted o (yielded #[] a.tmps) = true := by simp [Region.wanted, hgd]
  have := step_append (P := Try.prog) (ops := #[]) (K := K) (Q := Q) (E := True) (a := a) (w := w) hw s x 45 ho base 5 (.int .u8 0) 1 1 Try.underlying45 infoB rfl (by decide) v n (u8s xs) hs hown A m c (u8s l) hx (by simp [hl]) hr.srcAll (u8s_one _) (by unfold maxLen; omega) (by omega) hbase
    (fun v' w' ho' _ hg hb => by
      rw [← u8s_append] at ho'
      obtain ⟨A1, c1, rfl, ho2⟩ := own_form ho'
      have e : (xs ++ l).length = n + m := by have := ho'.1; simp at this; simp [hl]; omega
      rw [e] at ho2 ⊢
      rw [hd]
      exact h A1 c1 w' ho2 ((Fr.refl _ _).grown hg (fun k hk => .inl (by simp [hk]))))
  rwa [if_pos hw] at this
end Go.Proofs.Ytmgbimdebhhckaa
