/- History: half; the preimages of leaves and nodes. -/
import Derived.Test.YtmgbimdebhhckaaShaI
import Derived.Test.YtmgbimdebhhckaaSeq2
import Derived.Test.YtmgbimdebhhckaaShelf
import Derived.Lib.ItoaNum
namespace Go.Proofs.Ytmgbimdebhhckaa
open Go.RowKit
set_option linter.unusedVariables false

/-- the greatest power of two below n -/
def halfN (n : Nat) : Nat := 2 ^ (Lib.bitLen (n - 1) - 1)
theorem halfN_spec (n : Nat) (h2 : 2 ≤ n) (hb : n ≤ 4611686018427387904) : 1 ≤ Lib.bitLen (n - 1) ∧ Lib.bitLen (n - 1) ≤ 62 ∧ 1 ≤ halfN n ∧ halfN n < n ∧ n ≤ 2 * halfN n := by
  obtain ⟨h1, h3, h4⟩ := Lib.bitLenAux_bounds 64 (n - 1) (by omega) (by omega)
  have e : Lib.bitLenAux 64 (n - 1) = Lib.bitLen (n - 1) := rfl
  rw [e] at h1 h3 h4
  have h5 := Lib.bitLen_le (n - 1) 62 (by omega) (by omega)
  refine ⟨h1, h5, Nat.one_le_two_pow, ?_, ?_⟩
  · unfold halfN; omega
  · unfold halfN
    have e2 : 2 * 2 ^ (Lib.bitLen (n - 1) - 1) = 2 ^ Lib.bitLen (n - 1) := by
      rw [← Nat.pow_succ']; congr 1; omega
    rw [e2]; omega
theorem half_calls (w : World) (n : Nat) (h2 : 2 ≤ n) (hb : n ≤ 4611686018427387904) :
    Calls Try.prog 22 #[.int .i64 (n : Int)] w fun e w' => e = .returned (.int .i64 (halfN n : Int)) ∧ w = w' := by
  obtain ⟨s1, s2, s3, s4, s5⟩ := halfN_spec n h2 hb
  have HC := Lib.hid (Try.bits_Len ((n : Int) - 1) w (by omega) (by omega))
  have hnat : ((n : Int) - 1).toNat = n - 1 := by omega
  rw [hnat] at HC
  obtain ⟨L, hL⟩ : ∃ L, Lib.bitLen (n - 1) = L := ⟨_, rfl⟩
  rw [hL] at HC s1 s2
  have HH := Lib.hid (show halfN n = 2 ^ (L - 1) by unfold halfN; rw [hL])
  have hI : (2 : Int) ≤ (n : Int) ∧ (n : Int) ≤ 4611686018427387904 := by omega
  have hLI : (1 : Int) ≤ (L : Int) ∧ (L : Int) ≤ 62 := by omega
  clear hL s1 s2 s3 s4 s5 hnat
  go_enter Try.func22, Try.ntmps22
  go_wp2_with (go_at_call 38; (refine HC.out.mono ?_); rintro e w' ⟨rfl, rfl⟩)
  go_ret
  refine ⟨congrArg (fun x => Ending.returned (Value.int .i64 x)) (show wrap64 (2 ^ (L - 1)) = (halfN n : Int) from ?_), rfl⟩
  rw [HH.out]
  have h1 : (2 : Nat) ^ (L - 1) ≤ 2 ^ 61 := Nat.pow_le_pow_right (by omega) (by omega)
  have h2 : ((2 : Int) ^ (L - 1)) = ((2 ^ (L - 1) : Nat) : Int) := by simp
  obtain ⟨p, hp⟩ : ∃ p : Nat, 2 ^ (L - 1) = p := ⟨_, rfl⟩
  rw [h2, hp]
  rw [hp] at h1
  unfold wrap64
  omega
theorem OwnB.base {w w0 : World} {l : List UInt8} {e : Ending} {w' : World} (h : OwnB w l e w') (hf : Fr [] w0 w) : OwnB w0 l e w' := by
  obtain ⟨A, c, rfl, ho, hf2⟩ := h
  exact ⟨A, c, rfl, own_mono ho hf.size, hf.trans hf2⟩
theorem box_at {P : Program} {ops : Array Oper} {rest : List Oper} {o : Oper} {a : Act} {w : World} {Q : Exit → Act → World → Prop} (hgd : o.guard = none) (ty : TypeId) (x : Operand) (ho : o.op = .box ty x)
    (cs : Array Value) (hx : a.eval x = .agg cs) (H : Nat) (hH : w.heap.size = H) (h : wpList P ops Q rest (a.put o.dst (.pointer (some ⟨H, 0, none⟩))) (w.alloc (.cells cs ty))) : wpList P ops Q (o :: rest) a w := by
  subst hH
  exact box_agg hgd ty x ho cs hx h
theorem rd_dig {w : World} {g : Nat} {t : TypeId} {x : List UInt8} (h : Blk w g t (u8s x).toArray) : Rd w (some ⟨g, 0, none⟩) x := rdB_blk (tl := []) (by rw [List.append_nil]; exact h)
theorem preB_leaf (x : List UInt8) (h : x.length = 32) (t : UInt8) : (preB t [x]).length = 41 := by simp [preB, eightB_length, h]
theorem preB_node (x y : List UInt8) (h : x.length = 32) (h' : y.length = 32) (t : UInt8) : (preB t [x, y]).length = 81 := by simp [preB, eightB_length, h, h']
set_option maxHeartbeats 1000000 in
theorem leaf_calls (w : World) (x : List UInt8) (hx : x.length = 32) : Calls Try.prog 21 #[.agg (u8s x).toArray] w (OwnB w (preB 76 [x])) := by
  have hb := Blk.new w 25 (u8s x).toArray
  have hf1 := (Fr.refl [] w).alloc (.cells (u8s x).toArray 25)
  have hsz : (w.alloc (.cells (u8s x).toArray 25)).heap.size = w.heap.size + 1 := by simp
  have hb2 := Blk.new (w.alloc (.cells (u8s x).toArray 25)) 45 #[.slice (some ⟨w.heap.size, 0, none⟩) 32 32]
  rw [hsz] at hb2
  have hf2 := (Fr.refl [] (w.alloc (.cells (u8s x).toArray 25))).alloc (.cells #[.slice (some ⟨w.heap.size, 0, none⟩) 32 32] 45)
  have hr := (rd_dig hb).fr hf2 (by simp)
  have HP := Lib.hid (pre_calls _ 76 (some ⟨w.heap.size + 1, 0, none⟩) 1 1 [x] rfl (fun i t ht => by
    match i with
    | 0 =>
      simp at ht; subst ht
      exact ⟨_, 0, _, 32, rfl, by simp, by rw [hb2.cell, hx]; rfl, hr⟩
    | i + 1 => simp at ht) (by rw [preB_leaf x hx]; omega) (by omega))
  have HF := Lib.hid (hf1.trans hf2)
  clear hb hf1 hsz hb2 hf2 hr
  go_enter Try.func21, Try.ntmps21
  go_wp2_with (first
    | (refine box_agg rfl 25 (.tmp 0) rfl (u8s x).toArray rfl ?_)
    | (go_at_call 34; (refine HP.out.mono ?_); rintro e w1 hown; have h := hown.base HF.out; clear hown; obtain ⟨A1, c1, rfl, ho1, hf1⟩ := h; have HO := Lib.hid ho1; have HF1 := Lib.hid hf1; clear ho1 hf1))
  go_ret
  exact ⟨_, _, rfl, HO.out, HF1.out⟩
set_option maxHeartbeats 1000000 in
theorem node_calls (w : World) (x y : List UInt8) (hx : x.length = 32) (hy : y.length = 32) : Calls Try.prog 23 #[.agg (u8s x).toArray, .agg (u8s y).toArray] w (OwnB w (preB 78 [x, y])) := by
  have E1 := Lib.hid (show (w.alloc (.cells (u8s x).toArray 25)).heap.size = w.heap.size + 1 by simp)
  go_enter Try.func23, Try.ntmps23
  go_wp2_with (first
    | (refine box_agg rfl 25 (.tmp 0) rfl (u8s x).toArray rfl ?_)
    | (refine box_at rfl 25 (.tmp 1) rfl (u8s y).toArray rfl (w.heap.size + 1) E1.out ?_))
  obtain ⟨W2, hW2⟩ : ∃ W2, ((w.alloc (.cells (u8s x).toArray 25)).alloc (.cells (u8s y).toArray 25)).drew = W2 := ⟨_, rfl⟩
  have hbx : Blk W2 w.heap.size 25 (u8s x).toArray := hW2 ▸ ((Blk.new w _ _).alloc _).drew
  have hby : Blk W2 (w.heap.size + 1) 25 (u8s y).toArray := by rw [← hW2, ← E1.out]; exact (Blk.new _ _ _).drew
  have hf : Fr [] w W2 := hW2 ▸ (((Fr.refl [] w).alloc _).alloc _).drew
  have hb2 := Blk.new W2 45 #[.slice (some ⟨w.heap.size, 0, none⟩) 32 32, .slice (some ⟨w.heap.size + 1, 0, none⟩) 32 32]
  have hf2 := (Fr.refl [] W2).alloc (.cells #[.slice (some ⟨w.heap.size, 0, none⟩) 32 32, .slice (some ⟨w.heap.size + 1, 0, none⟩) 32 32] 45)
  have HP := Lib.hid (pre_calls _ 78 (some ⟨W2.heap.size, 0, none⟩) 2 2 [x, y] rfl (fun i t ht => by
    match i with
    | 0 =>
      simp at ht; subst ht
      exact ⟨_, 0, _, 32, rfl, by simp, by rw [hb2.cell, hx]; rfl, (rd_dig hbx).fr hf2 (by simp)⟩
    | 1 =>
      simp at ht; subst ht
      exact ⟨_, 0, _, 32, rfl, by simp, by rw [hb2.cell, hy]; rfl, (rd_dig hby).fr hf2 (by simp)⟩
    | i + 2 => simp at ht) (by rw [preB_node x y hx hy]; omega) (by omega))
  have HF := Lib.hid (hf.trans hf2)
  clear hbx hby hf hb2 hf2
  refine seq_begin (by kernel_rfl) ?_
  rw [hW2]
  clear hW2
  refine seq_take (i := 0) (v := (.slice (some ⟨w.heap.size, 0, none⟩) 32 32)) (d := 5) rfl (by kernel_rfl) (by kernel_rfl) (by kernel_rfl) (by kernel_rfl) (by kernel_rfl) (fun _ _ _ h => h) ?_ ?_
  · intro w9; kernel_rfl
  try simp only [Act.put, List.setIfInBounds_toArray, List.set_cons_zero, List.set_cons_succ]
  refine seq_take (i := 1) (v := (.slice (some ⟨w.heap.size + 1, 0, none⟩) 32 32)) (d := 6) rfl (by kernel_rfl) (by kernel_rfl) (by kernel_rfl) (by kernel_rfl) (by kernel_rfl) (fun _ _ _ h => h) ?_ ?_
  · intro w9; kernel_rfl
  try simp only [Act.put, List.setIfInBounds_toArray, List.set_cons_zero, List.set_cons_succ]
  refine seq_only (i := 2) rfl (by kernel_rfl) (by kernel_rfl) ?_
  have hr2 := fun (a : Act) (o : Oper) (K : Act → World → Prop) (Q : Exit → Act → World → Prop) => @sq_val Try.prog Q a o W2 K (.slice (some ⟨W2.heap.size, 0, none⟩) 2 2) (W2.alloc (.cells #[.slice (some ⟨w.heap.size, 0, none⟩) 32 32, .slice (some ⟨w.heap.size + 1, 0, none⟩) 32 32] 45)) 7
  refine hr2 _ _ _ _ ?_ ?_ ?_
  · kernel_rfl
  · kernel_rfl
  clear hr2
  try simp only [Act.put, List.setIfInBounds_toArray, List.set_cons_zero, List.set_cons_succ]
  refine seq_only (i := 3) rfl (by kernel_rfl) (by kernel_rfl) ?_
  have hr3 := fun (a : Act) (o : Oper) (K : Act → World → Prop) (Q : Exit → Act → World → Prop) => @sq_call Try.prog Q a o (W2.alloc (.cells #[.slice (some ⟨w.heap.size, 0, none⟩) 32 32, .slice (some ⟨w.heap.size + 1, 0, none⟩) 32 32] 45)) K (OwnB (W2.alloc (.cells #[.slice (some ⟨w.heap.size, 0, none⟩) 32 32, .slice (some ⟨w.heap.size + 1, 0, none⟩) 32 32] 45)) (preB 78 [x, y])) 34 #[.int .u8 78, .slice (some ⟨W2.heap.size, 0, none⟩) 2 2] 8
  refine hr3 _ _ _ _ ?_ ?_ ?_ ?_
  · kernel_rfl
  · kernel_rfl
  · exact HP.out
  rintro e w9 hown
  have h := hown.base HF.out
  clear hown
  obtain ⟨A1, c1, rfl, ho1, hf1⟩ := h
  have HO := Lib.hid ho1; have HF1 := Lib.hid hf1; clear ho1 hf1
  refine ⟨_, rfl, ?_⟩
  clear hr3
  try simp only [Act.put, List.setIfInBounds_toArray, List.set_cons_zero, List.set_cons_succ]
  refine seq_take (i := 4) (v := (.slice A1 (preB 78 [x, y]).length c1)) (d := 4) rfl (by kernel_rfl) (by kernel_rfl) (by kernel_rfl) (by kernel_rfl) (by kernel_rfl) (fun _ _ _ h => h) ?_ ?_
  · intro w9; kernel_rfl
  try simp only [Act.put, List.setIfInBounds_toArray, List.set_cons_zero, List.set_cons_succ]
  refine wpAnyH_done (by kernel_rfl) ?_ _
  go_wp2_with fail
  go_ret
  exact ⟨_, _, rfl, HO.out, HF1.out⟩
end Go.Proofs.Ytmgbimdebhhckaa
