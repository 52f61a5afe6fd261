/- History, the document's: Half, Leaf, Node. -/
import Derived.Test.YtmgbimdebhhckaaHistB
import Derived.Test.YtmgbimdebhhckaaRefC
namespace Go.Proofs.Ytmgbimdebhhckaa
open Go.RowKit
set_option linter.unusedVariables false

theorem pow2_uniq {i j n : Nat} (h1 : 2 ^ i < n) (h2 : n ≤ 2 * 2 ^ i) (h3 : 2 ^ j < n) (h4 : n ≤ 2 * 2 ^ j) : i = j := by
  rcases Nat.lt_trichotomy i j with h | h | h
  · have : 2 ^ (i + 1) ≤ 2 ^ j := Nat.pow_le_pow_right (by omega) (by omega)
    rw [Nat.pow_succ] at this; omega
  · exact h
  · have : 2 ^ (j + 1) ≤ 2 ^ i := Nat.pow_le_pow_right (by omega) (by omega)
    rw [Nat.pow_succ] at this; omega
theorem halfN_uniq {j n : Nat} (h2 : 2 ≤ n) (hb : n ≤ 4611686018427387904) (h3 : 2 ^ j < n) (h4 : n ≤ 2 * 2 ^ j) : 2 ^ j = halfN n := by
  obtain ⟨_, _, _, a, b⟩ := halfN_spec n h2 hb
  unfold halfN at a b ⊢
  rw [pow2_uniq h3 h4 a b]
theorem rhalf_calls (w : World) (n : Nat) (h2 : 2 ≤ n) (hb : n ≤ 4611686018427387904) :
    Calls Try.prog 29 #[.int .i64 (n : Int)] w fun e w' => e = .returned (.int .i64 (halfN n : Int)) ∧ w = w' := by
  have hI : (2 : Int) ≤ (n : Int) ∧ (n : Int) ≤ 4611686018427387904 := by omega
  go_enter Try.func29, Try.ntmps29
  go_wp2
  go_loopg [3] (n - 1) (fun gg u wr => ∃ k j : Nat, k = 2 ^ j ∧ 1 ≤ k ∧ k < n ∧ gg = n - k ∧ u = .int .i64 k ∧ w = wr)
  case atStart => exact ⟨1, 0, rfl, by omega, by omega, rfl, rfl, rfl⟩
  case round =>
    obtain ⟨k, j, hk, hk1, hkn, rfl, rfl, rfl⟩ := hrel
    have hkI : (1 : Int) ≤ (k : Int) ∧ (k : Int) < (n : Int) := by omega
    have HK := Lib.hid hk
    clear hk
    by_cases hlt : 2 * k < n
    · have hlI : 2 * (k : Int) < (n : Int) := by omega
      go_wp2
      go_roundg (n - 2 * k)
      case measure => omega
      case rel => exact ⟨2 * k, j + 1, by rw [HK.out, Nat.pow_succ]; omega, by omega, by omega, rfl, by congr 1, rfl⟩
    · have hlI : (n : Int) ≤ 2 * (k : Int) := by omega
      go_wp2
      go_ret
      have e := halfN_uniq (j := j) h2 hb (by rw [← HK.out]; exact hkn) (by rw [← HK.out]; omega)
      rw [← HK.out] at e
      exact ⟨congrArg (fun x => Ending.returned (Value.int .i64 x)) (show (k : Int) = (halfN n : Int) by rw [← e]), rfl⟩
set_option maxHeartbeats 1000000 in
theorem rbytes_calls (w : World) (x : List UInt8) (hx : x.length = 32) : Calls Try.prog 41 #[.agg (u8s x).toArray] w (OwnB w x) := by
  have hb := Blk.new w 25 (u8s x).toArray
  have HF := Lib.hid ((Fr.refl [] w).alloc (.cells (u8s x).toArray 25))
  have HR := Lib.hid (rd_dig hb)
  have HX := Lib.hid hx
  have E1 := Lib.hid (show (w.alloc (.cells (u8s x).toArray 25)).heap.size = w.heap.size + 1 by simp)
  have hbd : (32 : Nat) ≤ 1000000000 := by omega
  clear hb hx
  go_enter Try.func41, Try.ntmps41
  go_wp2_with (first
    | (refine box_agg rfl 25 (.tmp 0) rfl (u8s x).toArray rfl ?_)
    | (at_builtin; refine copyU8 rfl (.tmp 3) (.tmp 4) rfl (w.alloc (.cells (u8s x).toArray 25)) (w.heap.size + 1) rfl E1.out.symm rfl (some ⟨w.heap.size, 0, none⟩) 32 32 x rfl HX.out HR.out hbd ?_; intro g1 c1 w3 ho1 hf1; have HO1 := Lib.hid ho1; have HF1 := Lib.hid (HF.out.trans hf1); clear ho1 hf1))
  go_ret
  have ho := own_mono HO1.out HF.out.size
  exact OwnB.mk' ho HF1.out
/-- one text, or two, in a slice that the call has made -/
theorem tx_one {w : World} {A : Option Addr} {c : Nat} {x : List UInt8} (hr : Rd w A x) : TxIn (w.alloc (.cells #[.slice A x.length c] 45)) (some ⟨w.heap.size, 0, none⟩) [x] := fun i t ht => by
  have hf := (Fr.refl [] w).alloc (.cells #[.slice A x.length c] 45)
  match i with
  | 0 =>
    simp at ht; subst ht
    exact ⟨_, 0, A, c, rfl, by simp, by rw [(Blk.new w _ _).cell]; rfl, hr.fr hf (by simp)⟩
  | i + 1 => simp at ht
theorem tx_two {w : World} {A B : Option Addr} {c d : Nat} {x y : List UInt8} (hr : Rd w A x) (hs : Rd w B y) : TxIn (w.alloc (.cells #[.slice A x.length c, .slice B y.length d] 45)) (some ⟨w.heap.size, 0, none⟩) [x, y] := fun i t ht => by
  have hf := (Fr.refl [] w).alloc (.cells #[.slice A x.length c, .slice B y.length d] 45)
  match i with
  | 0 =>
    simp at ht; subst ht
    exact ⟨_, 0, A, c, rfl, by simp, by rw [(Blk.new w _ _).cell]; rfl, hr.fr hf (by simp)⟩
  | 1 =>
    simp at ht; subst ht
    exact ⟨_, 0, B, d, rfl, by simp, by rw [(Blk.new w _ _).cell]; rfl, hs.fr hf (by simp)⟩
  | i + 2 => simp at ht
set_option maxHeartbeats 1000000 in
theorem rleaf_calls (w : World) (x : List UInt8) (hx : x.length = 32) : Calls Try.prog 28 #[.agg (u8s x).toArray] w (OwnB w (preB 76 [x])) := by
  have hb := Blk.new w 25 (u8s x).toArray
  have HF := Lib.hid ((Fr.refl [] w).alloc (.cells (u8s x).toArray 25))
  have HC := Lib.hid (show ∀ j v, (u8s x)[j]? = some v → (w.alloc (.cells (u8s x).toArray 25)).cell? ⟨w.heap.size, 0 + j, none⟩ = some v from fun j v hv => by rw [hb.cell, List.getElem?_toArray, Nat.zero_add]; exact hv)
  have HXS := Lib.hid (dig_size x hx)
  have HBC := Lib.hid (rbytes_calls (w.alloc (.cells (u8s x).toArray 25)) x hx)
  have HX := Lib.hid hx
  have H41 := Lib.hid (preB_leaf x hx 76)
  clear hb hx
  go_enter Try.func28, Try.ntmps28
  go_wp2_with (first
    | (refine box_agg rfl 25 (.tmp 0) rfl (u8s x).toArray rfl ?_)
    | (refine wpList_load_agg rfl 25 (.tmp 1) rfl w.heap.size 0 rfl (u8s x) _ HC.out Try.underlying25 rfl HXS.out ?_)
    | (go_at_call 41; (with_reducible refine HBC.out.mono ?_); rintro e w2 ⟨A2, c2, rfl, ho2, hf2⟩; have HT2 := Lib.hid (tx_one (c := c2) (ownB_rd ho2)); have HF2 := Lib.hid ((HF.out.trans hf2).alloc (.cells #[.slice A2 x.length c2] 45)); clear ho2 hf2)
    | (go_at_call 27; (refine (rpre_calls _ 76 (some ⟨w2.heap.size, 0, none⟩) 1 1 [x] rfl HT2.out (by rw [H41.out]; omega) (by omega)).mono ?_); rintro e w3 hown; have h := hown.base HF2.out; clear hown; obtain ⟨A3, c3, rfl, ho3, hf3⟩ := h; have HO := Lib.hid ho3; have HF3 := Lib.hid hf3; clear ho3 hf3))
  go_ret
  exact ⟨_, _, rfl, HO.out, HF3.out⟩
set_option maxHeartbeats 2000000 in
theorem rnode_calls (w : World) (x y : List UInt8) (hx : x.length = 32) (hy : y.length = 32) : Calls Try.prog 30 #[.agg (u8s x).toArray, .agg (u8s y).toArray] w (OwnB w (preB 78 [x, y])) := by
  have E1 := Lib.hid (show (w.alloc (.cells (u8s x).toArray 25)).heap.size = w.heap.size + 1 by simp)
  have HX := Lib.hid hx; have HY := Lib.hid hy; have HXS := Lib.hid (dig_size x hx); have HYS := Lib.hid (dig_size y hy)
  have H81 := Lib.hid (preB_node x y hx hy 78)
  clear hx hy
  go_enter Try.func30, Try.ntmps30
  go_wp2_with (first
    | (refine box_agg rfl 25 (.tmp 0) rfl (u8s x).toArray rfl ?_)
    | (refine box_at rfl 25 (.tmp 1) rfl (u8s y).toArray rfl (w.heap.size + 1) E1.out ?_))
  obtain ⟨W2, hW2⟩ : ∃ W2, ((w.alloc (.cells (u8s x).toArray 25)).alloc (.cells (u8s y).toArray 25)).drew = W2 := ⟨_, rfl⟩
  have hbx : Blk W2 w.heap.size 25 (u8s x).toArray := hW2 ▸ ((Blk.new w _ _).alloc _).drew
  have hby : Blk W2 (w.heap.size + 1) 25 (u8s y).toArray := by rw [← hW2, ← E1.out]; exact (Blk.new _ _ _).drew
  have HF2 := Lib.hid (show Fr [] w W2 from hW2 ▸ (((Fr.refl [] w).alloc _).alloc _).drew)
  have HCX := Lib.hid (fun (w' : World) (h : OldW W2 w') => (fun j v hv => by rw [(hbx.fr h (by simp)).cell, List.getElem?_toArray, Nat.zero_add]; exact hv : ∀ j v, (u8s x)[j]? = some v → w'.cell? ⟨w.heap.size, 0 + j, none⟩ = some v))
  have HCY := Lib.hid (fun (w' : World) (h : OldW W2 w') => (fun j v hv => by rw [(hby.fr h (by simp)).cell, List.getElem?_toArray, Nat.zero_add]; exact hv : ∀ j v, (u8s y)[j]? = some v → w'.cell? ⟨w.heap.size + 1, 0 + j, none⟩ = some v))
  clear hbx hby
  refine sqo_begin (w0 := W2) (by kernel_rfl) ?_
  rw [hW2]
  clear hW2
  have hSW2 : OldW W2 W2 := Fr.refl [] W2
  refine sqo_take (i := 0) (v := (.agg (u8s x).toArray)) (d := 5) rfl (by kernel_rfl) (by kernel_rfl) (by kernel_rfl) (by kernel_rfl) (by kernel_rfl) (fun _ _ _ h => h) ?_ (by assumption) ?_
  · intro w9 h9; exact exec_load_agg rfl w.heap.size 0 (by kernel_rfl) (u8s x) _ (HCX.out w9 h9) Try.underlying25 rfl HXS.out
  try simp only [Act.put, List.setIfInBounds_toArray, List.set_cons_zero, List.set_cons_succ]
  refine sqo_take (i := 2) (v := (.agg (u8s y).toArray)) (d := 7) rfl (by kernel_rfl) (by kernel_rfl) (by kernel_rfl) (by kernel_rfl) (by kernel_rfl) (fun _ _ _ h => h) ?_ (by assumption) ?_
  · intro w9 h9; exact exec_load_agg rfl (w.heap.size + 1) 0 (by kernel_rfl) (u8s y) _ (HCY.out w9 h9) Try.underlying25 rfl HYS.out
  try simp only [Act.put, List.setIfInBounds_toArray, List.set_cons_zero, List.set_cons_succ]
  refine sqo_only (i := 1) rfl (by kernel_rfl) (by kernel_rfl) ?_
  have hr1 := fun (a : Act) (o : Oper) (K : Act → World → Prop) (Q : Exit → Act → World → Prop) => @sq_call Try.prog Q a o W2 K (OwnB W2 x) 41 #[.agg (u8s x).toArray] 6
  refine hr1 _ _ _ _ ?_ ?_ ?_ ?_
  · kernel_rfl
  · kernel_rfl
  · exact rbytes_calls W2 x HX.out
  rintro e W3 ⟨A3, c3, rfl, ho9, f9⟩
  have HO3 := Lib.hid (ownB_rd ho9)
  clear ho9
  have hfW3 := OldW.step hSW2 f9
  refine ⟨_, rfl, hfW3, ?_⟩
  have hSW3 := hfW3
  clear hr1 hfW3
  try simp only [Act.put, List.setIfInBounds_toArray, List.set_cons_zero, List.set_cons_succ]
  refine sqo_only (i := 3) rfl (by kernel_rfl) (by kernel_rfl) ?_
  have hr3 := fun (a : Act) (o : Oper) (K : Act → World → Prop) (Q : Exit → Act → World → Prop) => @sq_call Try.prog Q a o W3 K (OwnB W3 y) 41 #[.agg (u8s y).toArray] 8
  refine hr3 _ _ _ _ ?_ ?_ ?_ ?_
  · kernel_rfl
  · kernel_rfl
  · exact rbytes_calls W3 y HY.out
  rintro e W4 ⟨A4, c4, rfl, ho9, f9⟩
  have HT := Lib.hid (tx_two (c := c3) (d := c4) (HO3.out.fr f9 (by simp)) (ownB_rd ho9))
  clear ho9
  have hfW4 := OldW.step hSW3 f9
  refine ⟨_, rfl, hfW4, ?_⟩
  have hSW4 := hfW4
  clear hr3 hfW4
  try simp only [Act.put, List.setIfInBounds_toArray, List.set_cons_zero, List.set_cons_succ]
  refine sqo_only (i := 4) rfl (by kernel_rfl) (by kernel_rfl) ?_
  have hr4 := fun (a : Act) (o : Oper) (K : Act → World → Prop) (Q : Exit → Act → World → Prop) => @sq_val Try.prog Q a o W4 K (.slice (some ⟨W4.heap.size, 0, none⟩) 2 2) (W4.alloc (.cells #[.slice A3 x.length c3, .slice A4 y.length c4] 45)) 9
  refine hr4 _ _ _ _ ?_ ?_ ?_
  · kernel_rfl
  · kernel_rfl
  have hf := OldW.step hSW4 ((Fr.refl [] W4).alloc (.cells #[.slice A3 x.length c3, .slice A4 y.length c4] 45))
  refine ⟨hf, ?_⟩
  have hSW5 := hf
  clear hr4 hf
  try simp only [Act.put, List.setIfInBounds_toArray, List.set_cons_zero, List.set_cons_succ]
  have hpc := rpre_calls (W4.alloc (.cells #[.slice A3 x.length c3, .slice A4 y.length c4] 45)) 78 (some ⟨W4.heap.size, 0, none⟩) 2 2 [x, y] rfl HT.out (by rw [H81.out]; omega) (by omega)
  have HPC := Lib.hid hpc
  clear hpc
  obtain ⟨W5, hW5⟩ : ∃ W5, (W4.alloc (.cells #[.slice A3 x.length c3, .slice A4 y.length c4] 45)) = W5 := ⟨_, rfl⟩
  rw [hW5] at hSW5 HPC ⊢
  clear hW5 HT
  refine sqo_only (i := 5) rfl (by kernel_rfl) (by kernel_rfl) ?_
  have hr5 := fun (a : Act) (o : Oper) (K : Act → World → Prop) (Q : Exit → Act → World → Prop) => @sq_call Try.prog Q a o W5 K (OwnB W5 (preB 78 [x, y])) 27 #[.int .u8 78, .slice (some ⟨W4.heap.size, 0, none⟩) 2 2] 10
  refine hr5 _ _ _ _ ?_ ?_ ?_ ?_
  · kernel_rfl
  · kernel_rfl
  · exact HPC.out
  rintro e W6 ⟨A6, c6, rfl, ho9, f9⟩
  have HO6 := Lib.hid ho9
  clear ho9
  have hfW6 := OldW.step hSW5 f9
  refine ⟨_, rfl, hfW6, ?_⟩
  have hSW6 := hfW6
  clear hr5 hfW6
  try simp only [Act.put, List.setIfInBounds_toArray, List.set_cons_zero, List.set_cons_succ]
  refine sqo_take (i := 6) (v := (.slice A6 (preB 78 [x, y]).length c6)) (d := 4) rfl (by kernel_rfl) (by kernel_rfl) (by kernel_rfl) (by kernel_rfl) (by kernel_rfl) (fun _ _ _ h => h) ?_ (by assumption) ?_
  · intro w9 h9; kernel_rfl
  try simp only [Act.put, List.setIfInBounds_toArray, List.set_cons_zero, List.set_cons_succ]
  refine wpAnyH_done (by kernel_rfl) ?_ _
  go_wp2_with fail
  go_ret
  exact ⟨_, _, rfl, own_mono HO6.out (HF2.out.trans hSW5).size, HF2.out.trans hSW6⟩
end Go.Proofs.Ytmgbimdebhhckaa
