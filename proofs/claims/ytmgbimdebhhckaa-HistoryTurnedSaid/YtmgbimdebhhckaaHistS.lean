/- History: InPath, Grows, GrowthPreimages. -/
import Derived.Test.YtmgbimdebhhckaaHistR
namespace Go.Proofs.Ytmgbimdebhhckaa
open Go.RowKit
set_option linter.unusedVariables false

theorem ex_eql_digB {a : Act} {o : Oper} {x y : Operand} {yt : TypeId} {v : Bool} (w : World) (ho : o.op = .binOp .eql 25 x y yt) (xs ys : List UInt8) (h1 : a.eval x = .agg (u8s xs).toArray) (h2 : a.eval y = .agg (u8s ys).toArray) (hx : xs.length = 32) (hy : ys.length = 32) (hv : (xs == ys) = v) :
    (execOp a.eval o).run Try.prog w = .ok (.value (.bool v)) w := by rw [ex_eql_dig w ho xs ys h1 h2 hx hy, hv]
theorem inB_no (root : List UInt8) (n i : Int) (x : List UInt8) (L : List (List UInt8)) (h : ¬ inOk n i) : inB root n i x L = false := by simp [inB, h]
theorem inB_yes (root : List UInt8) (n i : Nat) (x : List UInt8) (L : List (List UInt8)) (h : inOk n i) : inB root n i x L = ((!(upF n i x L).k && decide ((upF n i x L).L.length = 0)) && ((upF n i x L).d == root)) := by simp [inB, h]
set_option maxHeartbeats 2000000 in
theorem InPath_calls (w : World) (root : List UInt8) (hr : root.length = 32) (n i : Int) (x : List UInt8) (hx : x.length = 32) (A : Option Addr) (m c : Nat) (L : List (List UInt8)) (hm : L.length = m) (hc : m ≤ c) (hD : DgIn w A L) (hL : m ≤ 1000) :
    Calls Try.prog 13 #[.agg (u8s root).toArray, .int .i64 n, .int .i64 i, .agg (u8s x).toArray, .slice A m c] w (Agg (.bool (inB root n i x L)) w) := by
  obtain ⟨w1, hw1⟩ : ∃ W, w.alloc (.cells (u8s root).toArray 25) = W := ⟨_, rfl⟩
  obtain ⟨w2, hw2⟩ : ∃ W, w1.alloc (.cells (u8s x).toArray 25) = W := ⟨_, rfl⟩
  have f02 : Fr [] w w2 := hw2 ▸ (hw1 ▸ (Fr.refl [] w).alloc _ : Fr [] w w1).alloc _
  have HX2 := Lib.hid (rd_row (show Blk w2 w1.heap.size 25 (u8s x).toArray from hw2 ▸ Blk.new w1 _ _))
  have HR2 := Lib.hid (show Blk w2 w.heap.size 25 (u8s root).toArray from hw2 ▸ (hw1 ▸ Blk.new w _ _ : Blk w1 w.heap.size 25 (u8s root).toArray).alloc _)
  have HXS := Lib.hid (dig_size x hx); have HRS := Lib.hid (dig_size root hr)
  have F2 := Lib.hid f02
  by_cases h : inOk n i
  · obtain ⟨n, rfl⟩ := Int.eq_ofNat_of_zero_le (show 0 ≤ n by unfold inOk at h; omega)
    obtain ⟨i, rfl⟩ := Int.eq_ofNat_of_zero_le (show 0 ≤ i by unfold inOk at h; omega)
    have hin := inPath_yes w2 [] (by simp) n i x hx A m c L hm hc (hD.fr f02) hL h
    have h32 := upF_d32 n i x L
    have hN := inB_yes root n i x L h
    obtain ⟨R, hR⟩ : ∃ R, upF n i x L = R := ⟨_, rfl⟩
    rw [hR] at hin h32 hN
    have HIN := Lib.hid hin; have HRF := Lib.hid (digF R.d h32); have HN := Lib.hid hN
    have hgd := dig_guard'
    have heq := fun w' : World => eq_dig w' R.d root h32 hr
    obtain ⟨gb, hgb⟩ : ∃ gb, (!R.k && decide (R.L.length = 0)) = gb := ⟨_, rfl⟩
    rw [hgb] at HN
    have HGB := Lib.hid hgb
    clear hin h32 hN hR h hx hm hc hD hL f02 hr hgb
    cases gb <;> (
      go_enter Try.func13, Try.ntmps13
      go_wp2_with (first
        | (refine box_agg rfl 25 (.tmp 0) rfl (u8s root).toArray rfl ?_; rw [hw1])
        | (refine box_agg rfl 25 (.tmp 3) rfl (u8s x).toArray rfl ?_; rw [hw2])
        | (refine wpList_load_agg rfl 25 (.tmp 8) rfl w1.heap.size 0 rfl (u8s x) _ HX2.out Try.underlying25 rfl HXS.out ?_)
        | (go_at_call 31; (with_reducible refine HIN.out.mono ?_); rintro e w3 ⟨g, v3, rfl, hp3, f3⟩; have HP3 := Lib.hid hp3; have F3 := Lib.hid f3; have HR3 := Lib.hid (HR2.out.fr f3 (by simp)); clear hp3 f3)
        | (refine wpList_alloc_agg rfl 25 rfl (zs 32).toArray arr32_zero ?_)
        | (refine wpList_store_agg rfl 25 (.tmp 12) (.tmp 20) rfl w3.heap.size 0 rfl (u8s R.d) rfl (zs 32) 25 (Blk.new w3 _ _) HRF.out.1 (u8s_one _) HRF.out.2.1 ?_; rw [HRF.out.2.2]; obtain ⟨w4, hw4⟩ : ∃ W, (w3.alloc (.cells (zs 32).toArray 25)).setRow w3.heap.size (u8s R.d).toArray = W := ⟨_, rfl⟩; rw [hw4];
            have F4 := Lib.hid (show Fr [] w3 w4 from hw4 ▸ ((Fr.refl [] w3).alloc _).setRow (.inr (Nat.le_refl _)) _); have HG4 := Lib.hid (good_calls w4 _ _ _ _ _ _ _ (HP3.out.fr F4.out (by simp))); rw [HGB.out] at HG4; have HR4 := Lib.hid (rd_row (HR3.out.fr F4.out (by simp))); have HD4 := Lib.hid (rd_row (show Blk w4 w3.heap.size 25 (u8s R.d).toArray from hw4 ▸ (Blk.new w3 _ _).setRow_ _)); clear hw4)
        | (go_at_call 32; (with_reducible refine HG4.out.mono ?_); rintro e w5 ⟨rfl, rfl⟩)
        | (refine wpList_wanted (v := .agg (u8s R.d).toArray) (w' := w4) (by rfl) (exec_load_agg (ty := 25) (x := .tmp 12) rfl w3.heap.size 0 rfl (u8s R.d) _ HD4.out Try.underlying25 rfl HRF.out.2.1) ?_)
        | (refine wpList_wanted (v := .agg (u8s root).toArray) (w' := w4) (by rfl) (exec_load_agg (ty := 25) (x := .tmp 5) rfl w.heap.size 0 rfl (u8s root) _ HR4.out Try.underlying25 rfl HRS.out) ?_))
      go_ret
      rw [HN.out]
      exact ⟨rfl, (F2.out.trans F3.out).trans F4.out⟩)
  · have HIN := Lib.hid (inPath_no w2 n i x A m c h)
    have HN := Lib.hid (inB_no root n i x L h)
    clear h hx hm hc hD hL f02 hr
    go_enter Try.func13, Try.ntmps13
    go_wp2_with (first
      | (refine box_agg rfl 25 (.tmp 0) rfl (u8s root).toArray rfl ?_; rw [hw1])
      | (refine box_agg rfl 25 (.tmp 3) rfl (u8s x).toArray rfl ?_; rw [hw2])
      | (refine wpList_load_agg rfl 25 (.tmp 8) rfl w1.heap.size 0 rfl (u8s x) _ HX2.out Try.underlying25 rfl HXS.out ?_)
      | (go_at_call 31; (with_reducible refine HIN.out.mono ?_); rintro e w3 ⟨rfl, f3⟩; have F3 := Lib.hid f3; clear f3)
      | (refine wpList_alloc_agg rfl 25 rfl (zs 32).toArray arr32_zero ?_)
      | (refine wpList_store_agg rfl 25 (.tmp 12) (.tmp 20) rfl w3.heap.size 0 rfl (zs 32) rfl (zs 32) 25 (Blk.new w3 _ _) z32_fit (u8s_one _) z32_size ?_; rw [z32_splice]))
    go_ret
    rw [HN.out]
    exact ⟨rfl, ((F2.out.trans F3.out).alloc _).setRow (.inr (by have := F2.out.size; have := F3.out.size; omega)) _⟩
def grOk (m n : Int) : Prop := 0 ≤ m ∧ m ≤ n ∧ n ≤ 1099511627776
instance (m n : Int) : Decidable (grOk m n) := by unfold grOk; exact inferInstance
def grB (a : List UInt8) (m : Int) (b : List UInt8) (n : Int) (L : List (List UInt8)) : Bool :=
  decide (grOk m n) && (if m = 0 then (a == shaB (preB 72 [])) && decide (L.length = 0)
    else ((!(boF a m.toNat n.toNat true L).k && decide ((boF a m.toNat n.toNat true L).L.length = 0)) && ((boF a m.toNat n.toNat true L).x == a)) && ((boF a m.toNat n.toNat true L).y == b))
def gpN (a : List UInt8) (m n : Int) (L : List (List UInt8)) : List (List UInt8) := if grOk m n ∧ m ≠ 0 then (boF a m.toNat n.toNat true L).N else []
theorem dg_all {w : World} {A : Option Addr} {L : List (List UInt8)} (hD : DgIn w A L) : ∀ p ∈ L, p.length = 32 := fun p hp' => by
  obtain ⟨j, hj, rfl⟩ := List.getElem_of_mem hp'
  exact (hD j _ (List.getElem?_eq_getElem hj)).1
set_option maxHeartbeats 2000000 in
theorem Grows_calls (w : World) (a b : List UInt8) (ha : a.length = 32) (hb : b.length = 32) (m n : Int) (A : Option Addr) (k c : Nat) (L : List (List UInt8)) (hk : L.length = k) (hc : k ≤ c) (hD : DgIn w A L) (hL : k ≤ 400) :
    Calls Try.prog 14 #[.agg (u8s a).toArray, .int .i64 m, .agg (u8s b).toArray, .int .i64 n, .slice A k c] w (Agg (.bool (grB a m b n L)) w) := by
  obtain ⟨w1, hw1⟩ : ∃ W, w.alloc (.cells (u8s a).toArray 25) = W := ⟨_, rfl⟩
  obtain ⟨w2, hw2⟩ : ∃ W, w1.alloc (.cells (u8s b).toArray 25) = W := ⟨_, rfl⟩
  have s1 : w1.heap.size = w.heap.size + 1 := by rw [← hw1]; simp
  have s2 : w2.heap.size = w.heap.size + 2 := by rw [← hw2]; simp; omega
  have f02 : Fr [] w w2 := hw2 ▸ (hw1 ▸ (Fr.refl [] w).alloc _ : Fr [] w w1).alloc _
  have HB2 := Lib.hid (show Blk w2 w1.heap.size 25 (u8s b).toArray from hw2 ▸ Blk.new w1 _ _)
  have HA2 := Lib.hid (show Blk w2 w.heap.size 25 (u8s a).toArray from hw2 ▸ (hw1 ▸ Blk.new w _ _ : Blk w1 w.heap.size 25 (u8s a).toArray).alloc _)
  have HAF := Lib.hid (digF a ha); have HBF := Lib.hid (digF b hb); have HA32 := Lib.hid ha; have HB32 := Lib.hid hb
  have F2 := Lib.hid f02
  by_cases h : grOk m n
  · obtain ⟨m, rfl⟩ := Int.eq_ofNat_of_zero_le (show 0 ≤ m by unfold grOk at h; omega)
    obtain ⟨n, rfl⟩ := Int.eq_ofNat_of_zero_le (show 0 ≤ n by unfold grOk at h; omega)
    have hI : (0 : Int) ≤ (m : Int) ∧ (m : Int) ≤ (n : Int) ∧ (n : Int) ≤ 1099511627776 := h
    by_cases h0 : m = 0
    · subst h0
      have hN : grB a ((0 : Nat) : Int) b n L = ((a == shaB (preB 72 [])) && decide (k = 0)) := by rw [← hk]; unfold grB; rw [decide_eq_true h, if_pos (show ((0 : Nat) : Int) = 0 from rfl)]; simp
      have HN := Lib.hid hN
      obtain ⟨q, hq⟩ : ∃ q, (a == shaB (preB 72 [])) = q := ⟨_, rfl⟩
      rw [hq] at HN
      have HEQ := Lib.hid hq
      have HKZ := Lib.hid (show ((k : Int) == 0) = decide (k = 0) by rw [Bool.eq_iff_iff]; simp)
      clear hN hq h ha hb hk hc hD hL f02 s1 s2
      cases q with
      | true =>
        go_enter Try.func14, Try.ntmps14
        go_wp2_with (first
          | (refine box_agg rfl 25 (.tmp 0) rfl (u8s a).toArray rfl ?_; rw [hw1])
          | (refine box_agg rfl 25 (.tmp 2) rfl (u8s b).toArray rfl ?_; rw [hw2]))
        have hS : RowsW [(w.heap.size, a)] w2.drew := fun r hr => by simp at hr; subst hr; exact HA2.out.drew
        refine sqs_begin (RowsW [(w.heap.size, a)]) (by kernel_rfl) ?_
        refine sqs_take (i := 0) (v := (.agg (u8s a).toArray)) (d := 29) rfl (by kernel_rfl) (by kernel_rfl) (by kernel_rfl) (by kernel_rfl) (by kernel_rfl) (fun _ _ _ h => h) ?_ (by assumption) ?_
        · intro w9 h9; exact exec_load_agg rfl w.heap.size 0 (by kernel_rfl) (u8s a) _ (RowsW.at h9 0 _ _ rfl) Try.underlying25 rfl HAF.out.2.1
        try simp only [Act.put, List.setIfInBounds_toArray, List.set_cons_zero, List.set_cons_succ]
        refine sqs_only (i := 1) rfl (by kernel_rfl) (by kernel_rfl) ?_
        have hr1 := fun (a₀ : Act) (o₀ : Oper) (K₀ : Act → World → Prop) (Q₀ : Exit → Act → World → Prop) => @sq_call Try.prog Q₀ a₀ o₀ w2.drew K₀ (Agg (.agg (u8s (shaB (preB 72 []))).toArray) w2.drew) 19 #[.int .u8 72, .slice none 0 0] 30
        refine hr1 _ _ _ _ ?_ ?_ ?_ ?_
        · kernel_rfl
        · kernel_rfl
        · exact (hash_calls w2.drew 72 none 0 0 [] rfl (TxIn.nil _ _) (by decide +kernel) (by omega))
        rintro e w9 ⟨rfl, f9⟩
        have F9 := Lib.hid f9
        have hS9 := hS.fr0 f9
        clear f9
        refine ⟨_, rfl, hS9, ?_⟩
        clear hr1
        try simp only [Act.put, List.setIfInBounds_toArray, List.set_cons_zero, List.set_cons_succ]
        refine sqs_take (i := 2) (v := (.bool true)) (d := 31) rfl (by kernel_rfl) (by kernel_rfl) (by kernel_rfl) (by kernel_rfl) (by kernel_rfl) (fun _ _ _ h => h) ?_ (by assumption) ?_
        · intro w9 h9; exact ex_eql_digB w9 rfl a (shaB (preB 72 [])) (by kernel_rfl) (by kernel_rfl) HA32.out (shaB_length _) HEQ.out
        try simp only [Act.put, List.setIfInBounds_toArray, List.set_cons_zero, List.set_cons_succ]
        refine sqs_take (i := 3) (v := (.bool true)) (d := 32) rfl (by kernel_rfl) (by kernel_rfl) (by kernel_rfl) (by kernel_rfl) (by kernel_rfl) (fun _ _ _ h => h) ?_ (by assumption) ?_
        · intro w9 h9; kernel_rfl
        try simp only [Act.put, List.setIfInBounds_toArray, List.set_cons_zero, List.set_cons_succ]
        refine sqs_take (i := 4) (v := (.slice A k c)) (d := 33) rfl (by kernel_rfl) (by kernel_rfl) (by kernel_rfl) (by kernel_rfl) (by kernel_rfl) (fun _ _ _ h => h) ?_ (by assumption) ?_
        · intro w9 h9; kernel_rfl
        try simp only [Act.put, List.setIfInBounds_toArray, List.set_cons_zero, List.set_cons_succ]
        refine sqs_take (i := 5) (v := (.int .i64 (k : Int))) (d := 34) rfl (by kernel_rfl) (by kernel_rfl) (by kernel_rfl) (by kernel_rfl) (by kernel_rfl) (fun _ _ _ h => h) ?_ (by assumption) ?_
        · intro w9 h9; kernel_rfl
        try simp only [Act.put, List.setIfInBounds_toArray, List.set_cons_zero, List.set_cons_succ]
        refine sqs_take (i := 6) (v := (.bool ((k : Int) == 0))) (d := 35) rfl (by kernel_rfl) (by kernel_rfl) (by kernel_rfl) (by kernel_rfl) (by kernel_rfl) (fun _ _ _ h => h) ?_ (by assumption) ?_
        · intro w9 h9; kernel_rfl
        try simp only [Act.put, List.setIfInBounds_toArray, List.set_cons_zero, List.set_cons_succ]
        refine sqs_take (i := 7) (v := (.bool ((k : Int) == 0))) (d := 36) rfl (by kernel_rfl) (by kernel_rfl) (by kernel_rfl) (by kernel_rfl) (by kernel_rfl) (fun _ _ _ h => h) ?_ (by assumption) ?_
        · intro w9 h9; kernel_rfl
        try simp only [Act.put, List.setIfInBounds_toArray, List.set_cons_zero, List.set_cons_succ]
        refine sqs_take (i := 8) (v := (.bool ((k : Int) == 0))) (d := 10) rfl (by kernel_rfl) (by kernel_rfl) (by kernel_rfl) (by kernel_rfl) (by kernel_rfl) (fun _ _ _ h => h) ?_ (by assumption) ?_
        · intro w9 h9; kernel_rfl
        try simp only [Act.put, List.setIfInBounds_toArray, List.set_cons_zero, List.set_cons_succ]
        refine wpAnyH_done (by kernel_rfl) ?_ _
        go_wp2_with fail
        go_ret
        rw [HN.out]
        exact ⟨by rw [HKZ.out]; rfl, F2.out.drew.trans F9.out⟩
      | false =>
        go_enter Try.func14, Try.ntmps14
        go_wp2_with (first
          | (refine box_agg rfl 25 (.tmp 0) rfl (u8s a).toArray rfl ?_; rw [hw1])
          | (refine box_agg rfl 25 (.tmp 2) rfl (u8s b).toArray rfl ?_; rw [hw2]))
        have hS : RowsW [(w.heap.size, a)] w2.drew := fun r hr => by simp at hr; subst hr; exact HA2.out.drew
        refine sqs_begin (RowsW [(w.heap.size, a)]) (by kernel_rfl) ?_
        refine sqs_take (i := 0) (v := (.agg (u8s a).toArray)) (d := 29) rfl (by kernel_rfl) (by kernel_rfl) (by kernel_rfl) (by kernel_rfl) (by kernel_rfl) (fun _ _ _ h => h) ?_ (by assumption) ?_
        · intro w9 h9; exact exec_load_agg rfl w.heap.size 0 (by kernel_rfl) (u8s a) _ (RowsW.at h9 0 _ _ rfl) Try.underlying25 rfl HAF.out.2.1
        try simp only [Act.put, List.setIfInBounds_toArray, List.set_cons_zero, List.set_cons_succ]
        refine sqs_only (i := 1) rfl (by kernel_rfl) (by kernel_rfl) ?_
        have hr1 := fun (a₀ : Act) (o₀ : Oper) (K₀ : Act → World → Prop) (Q₀ : Exit → Act → World → Prop) => @sq_call Try.prog Q₀ a₀ o₀ w2.drew K₀ (Agg (.agg (u8s (shaB (preB 72 []))).toArray) w2.drew) 19 #[.int .u8 72, .slice none 0 0] 30
        refine hr1 _ _ _ _ ?_ ?_ ?_ ?_
        · kernel_rfl
        · kernel_rfl
        · exact (hash_calls w2.drew 72 none 0 0 [] rfl (TxIn.nil _ _) (by decide +kernel) (by omega))
        rintro e w9 ⟨rfl, f9⟩
        have F9 := Lib.hid f9
        have hS9 := hS.fr0 f9
        clear f9
        refine ⟨_, rfl, hS9, ?_⟩
        clear hr1
        try simp only [Act.put, List.setIfInBounds_toArray, List.set_cons_zero, List.set_cons_succ]
        refine sqs_take (i := 2) (v := (.bool false)) (d := 31) rfl (by kernel_rfl) (by kernel_rfl) (by kernel_rfl) (by kernel_rfl) (by kernel_rfl) (fun _ _ _ h => h) ?_ (by assumption) ?_
        · intro w9 h9; exact ex_eql_digB w9 rfl a (shaB (preB 72 [])) (by kernel_rfl) (by kernel_rfl) HA32.out (shaB_length _) HEQ.out
        try simp only [Act.put, List.setIfInBounds_toArray, List.set_cons_zero, List.set_cons_succ]
        refine sqs_take (i := 3) (v := (.bool false)) (d := 32) rfl (by kernel_rfl) (by kernel_rfl) (by kernel_rfl) (by kernel_rfl) (by kernel_rfl) (fun _ _ _ h => h) ?_ (by assumption) ?_
        · intro w9 h9; kernel_rfl
        try simp only [Act.put, List.setIfInBounds_toArray, List.set_cons_zero, List.set_cons_succ]
        refine sqs_pass (i := 4) (d := 33) rfl (by kernel_rfl) (by kernel_rfl) (by kernel_rfl) (by kernel_rfl) (by kernel_rfl) (fun _ _ _ h => h) (by assumption) ?_
        try simp only [Act.put, List.setIfInBounds_toArray, List.set_cons_zero, List.set_cons_succ]
        refine sqs_pass (i := 5) (d := 34) rfl (by kernel_rfl) (by kernel_rfl) (by kernel_rfl) (by kernel_rfl) (by kernel_rfl) (fun _ _ _ h => h) (by assumption) ?_
        try simp only [Act.put, List.setIfInBounds_toArray, List.set_cons_zero, List.set_cons_succ]
        refine sqs_pass (i := 6) (d := 35) rfl (by kernel_rfl) (by kernel_rfl) (by kernel_rfl) (by kernel_rfl) (by kernel_rfl) (fun _ _ _ h => h) (by assumption) ?_
        try simp only [Act.put, List.setIfInBounds_toArray, List.set_cons_zero, List.set_cons_succ]
        refine sqs_take (i := 7) (v := (.bool false)) (d := 36) rfl (by kernel_rfl) (by kernel_rfl) (by kernel_rfl) (by kernel_rfl) (by kernel_rfl) (fun _ _ _ h => h) ?_ (by assumption) ?_
        · intro w9 h9; kernel_rfl
        try simp only [Act.put, List.setIfInBounds_toArray, List.set_cons_zero, List.set_cons_succ]
        refine sqs_take (i := 8) (v := (.bool false)) (d := 10) rfl (by kernel_rfl) (by kernel_rfl) (by kernel_rfl) (by kernel_rfl) (by kernel_rfl) (fun _ _ _ h => h) ?_ (by assumption) ?_
        · intro w9 h9; kernel_rfl
        try simp only [Act.put, List.setIfInBounds_toArray, List.set_cons_zero, List.set_cons_succ]
        refine wpAnyH_done (by kernel_rfl) ?_ _
        go_wp2_with fail
        go_ret
        rw [HN.out]
        exact ⟨rfl, F2.out.drew.trans F9.out⟩
    · obtain ⟨w3, hw3⟩ : ∃ W, w2.alloc (.cells #[.slice A k c, .slice none 0 0, .bool false] 54) = W := ⟨_, rfl⟩
      have f03 : Fr [] w w3 := hw3 ▸ f02.alloc _
      have f23 : Fr [] w2 w3 := hw3 ▸ (Fr.refl [] w2).alloc _
      have HA3 := Lib.hid (HA2.out.fr f23 (by simp)); have HB3 := Lib.hid (HB2.out.fr f23 (by simp))
      have HC3 := Lib.hid (rd_row HA3.out)
      have hp := PIs.begin w w2 [w2.heap.size] (by simp) f02 A c L (by omega) hD
      rw [hk, hw3] at hp
      have hbo := both_calls n n m w3 [w2.heap.size] w2.heap.size w.heap.size (.slice none 0 0) a true L [] (Nat.le_refl _) (fun y hy => by simp at hy; subst hy; rw [← hw3]; simp) hp (by omega) (by omega) (by omega) ha (dg_all hD) (by simp; omega)
      have h32 := boF_32 a ha n m true L (by omega) (by omega) (dg_all hD)
      have hN : grB a (m : Int) b (n : Int) L = (((!(boF a m n true L).k && decide ((boF a m n true L).L.length = 0)) && ((boF a m n true L).x == a)) && ((boF a m n true L).y == b)) := by
        unfold grB; rw [if_neg (by omega), decide_eq_true h]; simp
      obtain ⟨R, hR⟩ : ∃ R, boF a m n true L = R := ⟨_, rfl⟩
      rw [hR] at hbo h32 hN
      have HBO := Lib.hid hbo; have HRX := Lib.hid (digF R.x h32.1); have HRY := Lib.hid (digF R.y h32.2.1); have HN := Lib.hid hN
      have hgd := dig_guard'
      have heq1 := fun w' : World => eq_dig w' R.x a h32.1 ha
      have heq2 := fun w' : World => eq_dig w' R.y b h32.2.1 hb
      obtain ⟨gb, hgb⟩ : ∃ gb, (!R.k && decide (R.L.length = 0)) = gb := ⟨_, rfl⟩
      obtain ⟨xb, hxb⟩ : ∃ xb, (R.x == a) = xb := ⟨_, rfl⟩
      rw [hgb, hxb] at HN
      rw [hxb] at heq1
      have HGB := Lib.hid hgb
      have hz : ((m : Int) == 0) = false := by rw [beq_eq_false_iff_ne]; omega
      have HS := Lib.hid (And.intro f03 (And.intro s1 s2))
      clear hbo h32 hN hR h ha hb hk hc hD hL f02 hgb hxb hp f03 f23 h0 s1 s2
      cases gb <;> cases xb <;> (
        go_enter Try.func14, Try.ntmps14
        go_wp2_with (first
          | (refine box_agg rfl 25 (.tmp 0) rfl (u8s a).toArray rfl ?_; rw [hw1])
          | (refine box_agg rfl 25 (.tmp 2) rfl (u8s b).toArray rfl ?_; rw [hw2])
          | (refine box_agg rfl 54 (.tmp 38) rfl #[.slice A k c, .slice none 0 0, .bool false] rfl ?_; rw [hw3])
          | (refine wpList_load_agg rfl 25 (.tmp 5) rfl w.heap.size 0 rfl (u8s a) _ HC3.out Try.underlying25 rfl HAF.out.2.1 ?_)
          | (go_at_call 33; (with_reducible refine HBO.out.mono ?_); rintro e w6 ⟨rfl, v6, hp6, hf6⟩; have HP6 := Lib.hid hp6; have HF6 := Lib.hid hf6; have HA6 := Lib.hid (hf6.blk HA3.out (by have := HS.out; omega) (by simp [Value.ownBlock])); have HB6 := Lib.hid (hf6.blk HB3.out (by have := HS.out; omega) (by simp [Value.ownBlock])); clear hp6 hf6; obtain ⟨wa, hwa⟩ : ∃ W, w6.alloc (.cells (zs 32).toArray 25) = W := ⟨_, rfl⟩; obtain ⟨wb, hwb⟩ : ∃ W, wa.alloc (.cells (zs 32).toArray 25) = W := ⟨_, rfl⟩;
              have HSA := Lib.hid (show wa.heap.size = w6.heap.size + 1 from hwa ▸ by simp); have FB := Lib.hid (show Fr [] w6 wb from hwb ▸ (hwa ▸ (Fr.refl [] w6).alloc _ : Fr [] w6 wa).alloc _); have HBX := Lib.hid (show Blk wb w6.heap.size 25 (zs 32).toArray from hwb ▸ (hwa ▸ Blk.new w6 _ _ : Blk wa w6.heap.size 25 (zs 32).toArray).alloc _); have HBY := Lib.hid (show Blk wb wa.heap.size 25 (zs 32).toArray from hwb ▸ Blk.new wa _ _))
          | (refine wpList_alloc_agg rfl 25 rfl (zs 32).toArray arr32_zero ?_; rw [hwa])
          | (refine wpList_alloc_agg rfl 25 rfl (zs 32).toArray arr32_zero ?_; rw [hwb])
          | (refine wpList_store_agg rfl 25 (.tmp 12) (.tmp 46) rfl w6.heap.size 0 rfl (u8s R.x) rfl (zs 32) 25 HBX.out HRX.out.1 (u8s_one _) HRX.out.2.1 ?_; rw [HRX.out.2.2])
          | (refine wpList_store_agg rfl 25 (.tmp 13) (.tmp 47) rfl wa.heap.size 0 rfl (u8s R.y) rfl (zs 32) 25 (HBY.out.setRow_far (by have := HSA.out; omega) _) HRY.out.1 (u8s_one _) HRY.out.2.1 ?_; rw [HRY.out.2.2]; obtain ⟨w8, hw8⟩ : ∃ W, (wb.setRow w6.heap.size (u8s R.x).toArray).setRow wa.heap.size (u8s R.y).toArray = W := ⟨_, rfl⟩; rw [hw8];
              have F8 := Lib.hid (show Fr [] w6 w8 from hw8 ▸ (FB.out.setRow (.inr (Nat.le_refl _)) _).setRow (.inr (by have := HSA.out; omega)) _); have HG8 := Lib.hid (good_calls w8 _ _ _ _ _ _ _ (HP6.out.fr F8.out (by simp))); rw [HGB.out] at HG8; have HA8 := Lib.hid (rd_row (HA6.out.fr F8.out (by simp))); have HB8 := Lib.hid (rd_row (HB6.out.fr F8.out (by simp))); have HQX := Lib.hid (rd_row (show Blk w8 w6.heap.size 25 (u8s R.x).toArray from hw8 ▸ (HBX.out.setRow_ _).setRow_far (by have := HSA.out; omega) _)); have HQY := Lib.hid (rd_row (show Blk w8 wa.heap.size 25 (u8s R.y).toArray from hw8 ▸ (HBY.out.setRow_far (by have := HSA.out; omega) _).setRow_ _)); clear hw8)
          | (go_at_call 32; (with_reducible refine HG8.out.mono ?_); rintro e w9 ⟨rfl, rfl⟩)
          | (refine wpList_wanted (v := .agg (u8s R.x).toArray) (w' := w8) (by rfl) (exec_load_agg (ty := 25) (x := .tmp 12) rfl w6.heap.size 0 rfl (u8s R.x) _ HQX.out Try.underlying25 rfl HRX.out.2.1) ?_)
          | (refine wpList_wanted (v := .agg (u8s a).toArray) (w' := w8) (by rfl) (exec_load_agg (ty := 25) (x := .tmp 5) rfl w.heap.size 0 rfl (u8s a) _ HA8.out Try.underlying25 rfl HAF.out.2.1) ?_)
          | (refine wpList_wanted (v := .agg (u8s R.y).toArray) (w' := w8) (by rfl) (exec_load_agg (ty := 25) (x := .tmp 13) rfl wa.heap.size 0 rfl (u8s R.y) _ HQY.out Try.underlying25 rfl HRY.out.2.1) ?_)
          | (refine wpList_wanted (v := .agg (u8s b).toArray) (w' := w8) (by rfl) (exec_load_agg (ty := 25) (x := .tmp 7) rfl w1.heap.size 0 rfl (u8s b) _ HB8.out Try.underlying25 rfl HBF.out.2.1) ?_))
        go_ret
        rw [HN.out]
        exact ⟨rfl, (HF6.out.fr0 HS.out.1 (by have := HS.out; omega)).trans F8.out⟩)
  · have HN := Lib.hid (show grB a m b n L = false by simp [grB, h])
    have hcase : m < 0 ∨ (0 ≤ m ∧ n < m) ∨ (0 ≤ m ∧ m ≤ n ∧ 1099511627776 < n) := by unfold grOk at h; omega
    clear h ha hb hk hc hD hL f02 s1 s2
    rcases hcase with h | ⟨h, h2⟩ | ⟨h, h2, h3⟩ <;> (
      go_enter Try.func14, Try.ntmps14
      go_wp2_with (first
        | (refine box_agg rfl 25 (.tmp 0) rfl (u8s a).toArray rfl ?_; rw [hw1])
        | (refine box_agg rfl 25 (.tmp 2) rfl (u8s b).toArray rfl ?_; rw [hw2]))
      go_ret
      rw [HN.out]
      exact ⟨rfl, F2.out⟩)
set_option maxHeartbeats 2000000 in
theorem gp_calls (w : World) (D : List Nat) (hDw : ∀ y ∈ D, y < w.heap.size) (a : List UInt8) (ha : a.length = 32) (m n : Int) (A : Option Addr) (k c : Nat) (L : List (List UInt8)) (hk : L.length = k) (hc : k ≤ c) (hD : DgIn w A L) (hL : k ≤ 400) :
    Calls Try.prog 18 #[.agg (u8s a).toArray, .int .i64 m, .int .i64 n, .slice A k c] w (OwnT w D (gpN a m n L)) := by
  obtain ⟨w2, hw2⟩ : ∃ W, w.alloc (.cells (u8s a).toArray 25) = W := ⟨_, rfl⟩
  have s2 : w2.heap.size = w.heap.size + 1 := by rw [← hw2]; simp
  have f02 : Fr [] w w2 := hw2 ▸ (Fr.refl [] w).alloc _
  have HA2 := Lib.hid (show Blk w2 w.heap.size 25 (u8s a).toArray from hw2 ▸ Blk.new w _ _)
  have HAF := Lib.hid (digF a ha)
  have F2 := Lib.hid f02
  by_cases h : grOk m n ∧ m ≠ 0
  · obtain ⟨h, h0⟩ := h
    obtain ⟨m, rfl⟩ := Int.eq_ofNat_of_zero_le (show 0 ≤ m by unfold grOk at h; omega)
    obtain ⟨n, rfl⟩ := Int.eq_ofNat_of_zero_le (show 0 ≤ n by unfold grOk at h; omega)
    have hI : (1 : Int) ≤ (m : Int) ∧ (m : Int) ≤ (n : Int) ∧ (n : Int) ≤ 1099511627776 := by unfold grOk at h; omega
    obtain ⟨w3, hw3⟩ : ∃ W, w2.alloc (.cells #[.slice A k c, .slice none 0 0, .bool false] 54) = W := ⟨_, rfl⟩
    have f03 : Fr [] w w3 := hw3 ▸ f02.alloc _
    have f23 : Fr [] w2 w3 := hw3 ▸ (Fr.refl [] w2).alloc _
    have HC3 := Lib.hid (rd_row (HA2.out.fr f23 (by simp)))
    have hp := PIs.begin w w2 (w2.heap.size :: D) (by simp) f02 A c L (by omega) hD
    rw [hk, hw3] at hp
    have hbo := both_calls n n m w3 (w2.heap.size :: D) w2.heap.size w.heap.size (.slice none 0 0) a true L [] (Nat.le_refl _) (fun y hy => by simp at hy; rcases hy with rfl | hy; rw [← hw3]; simp; exact Nat.lt_of_lt_of_le (hDw y hy) f03.size) hp (by omega) (by omega) (by omega) ha (dg_all hD) (by simp; omega)
    have hN : gpN a (m : Int) (n : Int) L = (boF a m n true L).N := by unfold gpN; rw [if_pos ⟨h, h0⟩]; rfl
    rw [hN]
    obtain ⟨R, hR⟩ : ∃ R, boF a m n true L = R := ⟨_, rfl⟩
    rw [hR] at hbo ⊢
    have HBO := Lib.hid hbo
    have HS := Lib.hid (And.intro f03 s2)
    clear hDw hbo hN hR h ha hk hc hD hL f02 hp f03 f23 h0 s2
    go_enter Try.func18, Try.ntmps18
    go_wp2_with (first
      | (refine box_agg rfl 25 (.tmp 0) rfl (u8s a).toArray rfl ?_; rw [hw2])
      | (refine box_agg rfl 54 (.tmp 22) rfl #[.slice A k c, .slice none 0 0, .bool false] rfl ?_; rw [hw3])
      | (refine wpList_load_agg rfl 25 (.tmp 4) rfl w.heap.size 0 rfl (u8s a) _ HC3.out Try.underlying25 rfl HAF.out.2.1 ?_)
      | (go_at_call 33; (with_reducible refine HBO.out.mono ?_); rintro e w6 ⟨rfl, v6, hp6, hf6⟩; have HP6 := Lib.hid hp6; have HF6 := Lib.hid hf6; have c1 := hp6.cell1; clear hp6 hf6))
    go_ret
    exact ⟨v6, rfl, HP6.out.tx.less (Nat.le_refl _) (by simp; intro y hy; exact .inr hy), HF6.out.fr0 HS.out.1 (by have := HS.out; omega)⟩
  · have HN := Lib.hid (show gpN a m n L = [] by unfold gpN; rw [if_neg h])
    have hcase : m < 1 ∨ (1 ≤ m ∧ n < m) ∨ (1 ≤ m ∧ m ≤ n ∧ 1099511627776 < n) := by unfold grOk at h; omega
    clear h ha hk hc hD hL f02 s2
    rcases hcase with h | ⟨h, h2⟩ | ⟨h, h2, h3⟩ <;> (
      go_enter Try.func18, Try.ntmps18
      go_wp2_with (refine box_agg rfl 25 (.tmp 0) rfl (u8s a).toArray rfl ?_; rw [hw2])
      go_ret
      rw [HN.out]
      exact ⟨_, rfl, TxRow.nil _ _ _, F2.out⟩)
end Go.Proofs.Ytmgbimdebhhckaa
