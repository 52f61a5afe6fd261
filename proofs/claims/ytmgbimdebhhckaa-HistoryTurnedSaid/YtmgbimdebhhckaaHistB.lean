/- History: the root of a list. -/
import Derived.Test.YtmgbimdebhhckaaHistA
namespace Go.Proofs.Ytmgbimdebhhckaa
open Go.RowKit
set_option linter.unusedVariables false

/-- digests, as a slice has them -/
def DgIn (w : World) (A : Option Addr) (ds : List (List UInt8)) : Prop :=
  ∀ i d, ds[i]? = some d → d.length = 32 ∧ ∃ b off, A = some ⟨b, off, none⟩ ∧ b < w.heap.size ∧ ∀ j v, (u8s d)[j]? = some v → w.cell? ⟨b, off + i * 32 + j, none⟩ = some v
theorem DgIn.fr {w w' : World} {A : Option Addr} {ds : List (List UInt8)} (h : DgIn w A ds) (hf : Fr [] w w') : DgIn w' A ds := fun i d hd => by
  obtain ⟨h1, b, off, hA, hb, hc⟩ := h i d hd
  refine ⟨h1, b, off, hA, Nat.lt_of_lt_of_le hb hf.size, fun j v hv => ?_⟩
  rw [hf.cell (p := ⟨b, off + i * 32 + j, none⟩) hb (by simp)]
  exact hc j v hv
theorem DgIn.take {w : World} {A : Option Addr} {ds : List (List UInt8)} (h : DgIn w A ds) (k : Nat) : DgIn w A (ds.take k) := fun i d hd => by
  rw [List.getElem?_take] at hd
  split at hd
  · exact h i d hd
  · cases hd
theorem DgIn.drop {w : World} {A : Option Addr} {ds : List (List UInt8)} (h : DgIn w A ds) (k : Nat) : DgIn w (A.map (·.add (k * 32))) (ds.drop k) := fun i d hd => by
  rw [List.getElem?_drop] at hd
  obtain ⟨h1, b, off, hA, hb, hc⟩ := h (k + i) d hd
  refine ⟨h1, b, off + k * 32, by rw [hA, Option.map_some, addr_add0], hb, fun j v hv => ?_⟩
  have := hc j v hv
  rwa [show off + (k + i) * 32 + j = off + k * 32 + i * 32 + j by omega] at this
def hfN (n : Nat) : Nat := min (max 1 (halfN n)) (n - 1)
theorem hfN_eq (n : Nat) (h2 : 2 ≤ n) (hb : n ≤ 4611686018427387904) : hfN n = halfN n := by
  obtain ⟨_, _, h1, h3, _⟩ := halfN_spec n h2 hb
  unfold hfN; omega
/-- the root of a list -/
def rootF (l : List (List UInt8)) : List UInt8 :=
  if h0 : l.length = 0 then shaB (preB 72 [])
  else if h1 : l.length = 1 then shaB (preB 76 [l.getD 0 []])
  else shaB (preB 78 [rootF (l.take (hfN l.length)), rootF (l.drop (hfN l.length))])
termination_by l.length
decreasing_by
  · rw [List.length_take]; unfold hfN; omega
  · rw [List.length_drop]; unfold hfN; omega
theorem rootF_length (l : List (List UInt8)) : (rootF l).length = 32 := by
  rw [rootF]
  split
  · exact shaB_length _
  · split <;> exact shaB_length _
theorem rootF_two (l : List (List UInt8)) (n : Nat) (hn : l.length = n) (h2 : 2 ≤ n) (hb : n ≤ 4611686018427387904) :
    rootF l = shaB (preB 78 [rootF (l.take (halfN n)), rootF (l.drop (halfN n))]) := by
  rw [rootF, dif_neg (by omega), dif_neg (by omega), hn, hfN_eq n h2 hb]
theorem rootF_one (l : List (List UInt8)) (x : List UInt8) (h : l[0]? = some x) (hn : l.length = 1) : rootF l = shaB (preB 76 [x]) := by
  rw [rootF, dif_neg (by omega), dif_pos hn]
  simp [List.getD, h]
theorem rootF_zero (l : List (List UInt8)) (hn : l.length = 0) : rootF l = shaB (preB 72 []) := by
  rw [rootF, dif_pos hn]
theorem dg_size : (Try.prog.info? 25).map (·.size) = some 32 := arr32_size
theorem sum_own (w w0 : World) (l : List UInt8) (A : Option Addr) (n c : Nat) (hn : l.length = n) (ho : w.ownsRow w0.heap.size 5 1 (.slice A n c) n (u8s l)) (hb : n ≤ 100000000) :
    Calls Try.prog 20 #[.slice A n c] w (Agg (.agg (u8s (shaB l)).toArray) w) := sum_calls w A n c l hn (ownB_rd ho) hb
set_option maxHeartbeats 4000000 in
theorem root_calls (k : Nat) : ∀ (w : World) (A : Option Addr) (n c : Nat) (ds : List (List UInt8)), n ≤ k → ds.length = n → n ≤ c → n ≤ 100000000 → DgIn w A ds →
    Calls Try.prog 7 #[.slice A n c] w (Agg (.agg (u8s (rootF ds)).toArray) w) := by
  induction k with
  | zero =>
    intro w A n c ds hk hn hc hb hD
    obtain rfl : n = 0 := by omega
    have hl32 := rootF_length ds
    have HB := Lib.hid (Blk.new w 25 (zs 32).toArray)
    have hf0 := (Fr.refl [] w).alloc (.cells (zs 32).toArray 25)
    have HS := Lib.hid (hash_calls (w.alloc (.cells (zs 32).toArray 25)) 72 none 0 0 [] rfl (TxIn.nil _ _) (by decide +kernel) (by omega))
    have HE := Lib.hid (rootF_zero ds hn)
    have HSP := Lib.hid (splice_32 _ hl32)
    have HSI := Lib.hid (dig_size _ hl32)
    have HFT := Lib.hid (show 0 + (u8s (rootF ds)).length ≤ (zs 32).length by simp [zs_length, hl32])
    have HF0 := Lib.hid hf0
    clear hl32 hf0 hk hn hc hb hD
    go_enter Try.func7, Try.ntmps7
    go_wp2_with (first
      | (refine wpList_alloc_agg rfl 25 rfl (zs 32).toArray arr32_zero ?_)
      | (go_at_call 19; (refine HS.out.mono ?_); rintro e w3 ⟨rfl, hf3⟩; rw [← HE.out]; have HF3 := Lib.hid hf3; have HB3 := Lib.hid (HB.out.fr hf3 (by simp)); clear hf3)
      | (refine wpList_store_agg rfl 25 (.tmp 2) (.tmp 22) rfl w.heap.size 0 rfl (u8s (rootF ds)) rfl (zs 32) 25 HB3.out HFT.out (u8s_one _) HSI.out ?_))
    have hb6 := HB3.out.setRow_ (splice (zs 32) 0 (u8s (rootF ds))).toArray
    rw [HSP.out] at hb6 ⊢
    refine bodyPost_ret (results_cell_row (p := 2) (ty := 25) rfl _ _ w.heap.size 25 (u8s (rootF ds)).toArray (0, 0) _ rfl hb6 Try.underlying25 rfl (by rw [List.size_toArray]; exact HSI.out)) rfl ?_
    exact ⟨rfl, (HF0.out.trans HF3.out).setRow (.inr (Nat.le_refl _)) _⟩
  | succ k ih =>
    intro w A n c ds hk hn hc hb hD
    by_cases h0 : n = 0
    · subst h0
      exact ih w A 0 c ds (by omega) hn hc hb hD
    have hl32 := rootF_length ds
    have HB := Lib.hid (Blk.new w 25 (zs 32).toArray)
    have hf0 := (Fr.refl [] w).alloc (.cells (zs 32).toArray 25)
    have HSP := Lib.hid (splice_32 _ hl32)
    have HSI := Lib.hid (dig_size _ hl32)
    have HFT := Lib.hid (show 0 + (u8s (rootF ds)).length ≤ (zs 32).length by simp [zs_length, hl32])
    have HF0 := Lib.hid hf0
    have HDN := Lib.hid hn; have HD := Lib.hid hD
    by_cases h1 : n = 1
    · subst h1
      obtain ⟨x, hx⟩ : ∃ x, ds[0]? = some x := ⟨ds[0]'(by omega), by simp⟩
      obtain ⟨hx32, b, off, hA, hbw, hcx⟩ := (hD.fr hf0) 0 x hx
      subst hA
      have HE := Lib.hid (rootF_one ds x hx hn)
      have HC := Lib.hid (show ∀ j v, (u8s x)[j]? = some v → (w.alloc (.cells (zs 32).toArray 25)).cell? ⟨b, off + j, none⟩ = some v from fun j v hv => by simpa using hcx j v hv)
      have HXS := Lib.hid (dig_size x hx32)
      have HLF := Lib.hid (leaf_calls (w.alloc (.cells (zs 32).toArray 25)) x hx32)
      have HX41 := Lib.hid (preB_leaf x hx32 76)
      have hcI : (1 : Int) ≤ (c : Int) := by omega
      clear hl32 hf0 hk hn hc hb hD h0 hx hcx hx32 hbw ih
      go_enter Try.func7, Try.ntmps7
      go_wp2_with (first
        | (refine wpList_alloc_agg rfl 25 rfl (zs 32).toArray arr32_zero ?_)
        | (refine wpList_load_agg rfl 25 (.tmp 26) rfl b off rfl (u8s x) _ HC.out Try.underlying25 rfl HXS.out ?_)
        | (go_at_call 21; (refine HLF.out.mono ?_); rintro e w2 ⟨A2, c2, rfl, ho2, hf2⟩; have HF2 := Lib.hid hf2; have HB2 := Lib.hid (HB.out.fr hf2 (by simp)); have HSM := Lib.hid (sum_calls w2 A2 _ c2 _ rfl (ownB_rd ho2) (by rw [HX41.out]; omega)); clear hf2 ho2)
        | (go_at_call 20; (refine HSM.out.mono ?_); rintro e w3 ⟨rfl, hf3⟩; rw [← HE.out]; have HF3 := Lib.hid hf3; have HB3 := Lib.hid (HB2.out.fr hf3 (by simp)); clear hf3)
        | (refine wpList_store_agg rfl 25 (.tmp 2) (.tmp 29) rfl w.heap.size 0 rfl (u8s (rootF ds)) rfl (zs 32) 25 HB3.out HFT.out (u8s_one _) HSI.out ?_))
      have hb6 := HB3.out.setRow_ (splice (zs 32) 0 (u8s (rootF ds))).toArray
      rw [HSP.out] at hb6 ⊢
      refine bodyPost_ret (results_cell_row (p := 2) (ty := 25) rfl _ _ w.heap.size 25 (u8s (rootF ds)).toArray (0, 0) _ rfl hb6 Try.underlying25 rfl (by rw [List.size_toArray]; exact HSI.out)) rfl ?_
      exact ⟨rfl, ((HF0.out.trans HF2.out).trans HF3.out).setRow (.inr (Nat.le_refl _)) _⟩
    · obtain ⟨_, _, g1, g2, g3⟩ := halfN_spec n (by omega) (by omega)
      have HE0 := rootF_two ds n hn (by omega) (by omega)
      have HHC := Lib.hid (half_calls (w.alloc (.cells (zs 32).toArray 25)) n (by omega) (by omega))
      obtain ⟨H, hH⟩ : ∃ H, halfN n = H := ⟨_, rfl⟩
      rw [hH] at HE0 g1 g2 g3 HHC
      have HE := Lib.hid HE0
      have HHN := Lib.hid (And.intro g1 (And.intro g2 (And.intro hk (And.intro hc hb))))
      have hI : (2 : Int) ≤ (n : Int) ∧ (n : Int) ≤ 100000000 ∧ (n : Int) ≤ (c : Int) ∧ (1 : Int) ≤ (H : Int) ∧ (H : Int) < (n : Int) ∧ (H : Int) < (c : Int) := by omega
      have hn0 : ((n : Int) == 0) = false := by rw [beq_eq_false_iff_ne]; omega
      have hn1 : ((n : Int) == 1) = false := by rw [beq_eq_false_iff_ne]; omega
      clear hl32 hf0 hk hn hc hb hD h0 h1 HE0 g1 g2 g3 hH
      go_enter Try.func7, Try.ntmps7
      go_wp2_with (first
        | (refine wpList_alloc_agg rfl 25 rfl (zs 32).toArray arr32_zero ?_)
        | (go_at_call 22; (with_reducible refine HHC.out.mono ?_); rintro e w2 ⟨rfl, rfl⟩))
      obtain ⟨W1, hW1⟩ : ∃ W1, (w.alloc (.cells (zs 32).toArray 25)).drew = W1 := ⟨_, rfl⟩
      have hb1 : Blk W1 w.heap.size 25 (zs 32).toArray := hW1 ▸ HB.out.drew
      have hf1 : Fr [] w W1 := hW1 ▸ HF0.out.drew
      have HB1 := Lib.hid hb1; have HF1 := Lib.hid hf1
      have HL := Lib.hid (fun (w' : World) (h : Fr [] w w') => ih w' A H c (ds.take H) (by have := HHN.out; omega) (by rw [List.length_take, HDN.out]; have := HHN.out; omega) (by have := HHN.out; omega) (by have := HHN.out; omega) ((HD.out.fr h).take H))
      have HR := Lib.hid (fun (w' : World) (h : Fr [] w w') => ih w' (A.map (·.add (H * 32))) (n - H) (c - H) (ds.drop H) (by have := HHN.out; omega) (by rw [List.length_drop, HDN.out]) (by have := HHN.out; omega) (by have := HHN.out; omega) ((HD.out.fr h).drop H))
      clear hb1 hf1
      refine seq_begin (by kernel_rfl) ?_
      rw [hW1]
      clear hW1
      refine seq_take (i := 0) (v := (.slice A n c)) (d := 10) rfl (by kernel_rfl) (by kernel_rfl) (by kernel_rfl) (by kernel_rfl) (by kernel_rfl) (fun _ _ _ h => h) ?_ ?_
      · intro w9; kernel_rfl
      try simp only [Act.put, List.setIfInBounds_toArray, List.set_cons_zero, List.set_cons_succ]
      refine seq_take (i := 1) (v := (.int .i64 (H : Int))) (d := 11) rfl (by kernel_rfl) (by kernel_rfl) (by kernel_rfl) (by kernel_rfl) (by kernel_rfl) (fun _ _ _ h => h) ?_ ?_
      · intro w9; kernel_rfl
      try simp only [Act.put, List.setIfInBounds_toArray, List.set_cons_zero, List.set_cons_succ]
      refine seq_take (i := 2) (v := (.slice A H c)) (d := 12) rfl (by kernel_rfl) (by kernel_rfl) (by kernel_rfl) (by kernel_rfl) (by kernel_rfl) (fun _ _ _ h => h) ?_ ?_
      · intro w9; go_simp; intro h; have := HHN.out; omega
      try simp only [Act.put, List.setIfInBounds_toArray, List.set_cons_zero, List.set_cons_succ]
      refine seq_take (i := 4) (v := (.slice A n c)) (d := 14) rfl (by kernel_rfl) (by kernel_rfl) (by kernel_rfl) (by kernel_rfl) (by kernel_rfl) (fun _ _ _ h => h) ?_ ?_
      · intro w9; kernel_rfl
      try simp only [Act.put, List.setIfInBounds_toArray, List.set_cons_zero, List.set_cons_succ]
      refine seq_take (i := 5) (v := (.int .i64 (H : Int))) (d := 15) rfl (by kernel_rfl) (by kernel_rfl) (by kernel_rfl) (by kernel_rfl) (by kernel_rfl) (fun _ _ _ h => h) ?_ ?_
      · intro w9; kernel_rfl
      try simp only [Act.put, List.setIfInBounds_toArray, List.set_cons_zero, List.set_cons_succ]
      refine seq_take (i := 6) (v := (.slice (A.map (·.add (H * 32))) (n - H) (c - H))) (d := 16) rfl (by kernel_rfl) (by kernel_rfl) (by kernel_rfl) (by kernel_rfl) (by kernel_rfl) (fun _ _ _ h => h) ?_ ?_
      · intro w9; go_simp; rw [if_pos (by have := HHN.out; omega), if_neg (by have := HHN.out; omega)]
      try simp only [Act.put, List.setIfInBounds_toArray, List.set_cons_zero, List.set_cons_succ]
      refine seq_only (i := 3) rfl (by kernel_rfl) (by kernel_rfl) ?_
      have hr3 := fun (a : Act) (o : Oper) (K : Act → World → Prop) (Q : Exit → Act → World → Prop) => @sq_call Try.prog Q a o W1 K (Agg (.agg (u8s (rootF (ds.take H))).toArray) W1) 7 #[.slice A H c] 13
      refine hr3 _ _ _ _ ?_ ?_ ?_ ?_
      · kernel_rfl
      · kernel_rfl
      · exact HL.out W1 HF1.out
      rintro e W2 ⟨rfl, f9⟩
      have HF2 := Lib.hid (HF1.out.trans f9)
      have HB2 := Lib.hid (HB1.out.fr f9 (by simp))
      clear f9
      refine ⟨_, rfl, ?_⟩
      clear hr3
      try simp only [Act.put, List.setIfInBounds_toArray, List.set_cons_zero, List.set_cons_succ]
      refine seq_only (i := 7) rfl (by kernel_rfl) (by kernel_rfl) ?_
      have hr7 := fun (a : Act) (o : Oper) (K : Act → World → Prop) (Q : Exit → Act → World → Prop) => @sq_call Try.prog Q a o W2 K (Agg (.agg (u8s (rootF (ds.drop H))).toArray) W2) 7 #[.slice (A.map (·.add (H * 32))) (n - H) (c - H)] 17
      refine hr7 _ _ _ _ ?_ ?_ ?_ ?_
      · kernel_rfl
      · kernel_rfl
      · exact HR.out W2 HF2.out
      rintro e W3 ⟨rfl, f9⟩
      have HF3 := Lib.hid (HF2.out.trans f9)
      have HB3 := Lib.hid (HB2.out.fr f9 (by simp))
      clear f9
      refine ⟨_, rfl, ?_⟩
      clear hr7
      try simp only [Act.put, List.setIfInBounds_toArray, List.set_cons_zero, List.set_cons_succ]
      refine seq_only (i := 8) rfl (by kernel_rfl) (by kernel_rfl) ?_
      have hr8 := fun (a : Act) (o : Oper) (K : Act → World → Prop) (Q : Exit → Act → World → Prop) => @sq_call Try.prog Q a o W3 K (OwnB W3 (preB 78 [rootF (ds.take H), rootF (ds.drop H)])) 23 #[.agg (u8s (rootF (ds.take H))).toArray, .agg (u8s (rootF (ds.drop H))).toArray] 18
      refine hr8 _ _ _ _ ?_ ?_ ?_ ?_
      · kernel_rfl
      · kernel_rfl
      · exact node_calls W3 _ _ (rootF_length _) (rootF_length _)
      rintro e W4 ⟨A9, c9, rfl, ho9, f9⟩
      have HF4 := Lib.hid (HF3.out.trans f9)
      have HB4 := Lib.hid (HB3.out.fr f9 (by simp))
      have HS4 := Lib.hid (sum_calls _ A9 _ c9 _ rfl (ownB_rd ho9) (by rw [preB_node _ _ (rootF_length _) (rootF_length _)]; omega))
      clear f9 ho9
      refine ⟨_, rfl, ?_⟩
      clear hr8
      try simp only [Act.put, List.setIfInBounds_toArray, List.set_cons_zero, List.set_cons_succ]
      refine seq_only (i := 9) rfl (by kernel_rfl) (by kernel_rfl) ?_
      have hr9 := fun (a : Act) (o : Oper) (K : Act → World → Prop) (Q : Exit → Act → World → Prop) => @sq_call Try.prog Q a o W4 K (Agg (.agg (u8s (shaB (preB 78 [rootF (ds.take H), rootF (ds.drop H)]))).toArray) W4) 20 #[.slice A9 (preB 78 [rootF (ds.take H), rootF (ds.drop H)]).length c9] 19
      refine hr9 _ _ _ _ ?_ ?_ ?_ ?_
      · kernel_rfl
      · kernel_rfl
      · exact HS4.out
      rintro e W5 ⟨rfl, f9⟩
      have HF5 := Lib.hid (HF4.out.trans f9)
      have HB5 := Lib.hid (HB4.out.fr f9 (by simp))
      clear f9
      rw [← HE.out]
      refine ⟨_, rfl, ?_⟩
      clear hr9
      try simp only [Act.put, List.setIfInBounds_toArray, List.set_cons_zero, List.set_cons_succ]
      refine seq_only (i := 10) rfl (by kernel_rfl) (by kernel_rfl) ?_
      have hr10 := fun (a : Act) (o : Oper) (K : Act → World → Prop) (Q : Exit → Act → World → Prop) => @sq_store Try.prog Q a o W5 K 25 (.tmp 2) (.tmp 19) w.heap.size 0 (u8s (rootF ds)) (zs 32) 25
      refine hr10 _ _ _ _ ?_ ?_ ?_ ?_ ?_ ?_ ?_ ?_ ?_
      · kernel_rfl
      · kernel_rfl
      · kernel_rfl
      · kernel_rfl
      · exact HB5.out
      · exact HFT.out
      · exact u8s_one _
      · exact HSI.out
      clear hr10
      try simp only [Act.put, List.setIfInBounds_toArray, List.set_cons_zero, List.set_cons_succ]
      refine wpAnyH_done (by kernel_rfl) ?_ _
      go_wp2_with fail
      have hb6 := HB5.out.setRow_ (splice (zs 32) 0 (u8s (rootF ds))).toArray
      rw [HSP.out] at hb6 ⊢
      refine bodyPost_ret (results_cell_row (p := 2) (ty := 25) rfl _ _ w.heap.size 25 (u8s (rootF ds)).toArray (0, 0) _ rfl hb6 Try.underlying25 rfl (by rw [List.size_toArray]; exact HSI.out)) rfl ?_
      exact ⟨rfl, HF5.out.setRow (.inr (Nat.le_refl _)) _⟩
end Go.Proofs.Ytmgbimdebhhckaa
