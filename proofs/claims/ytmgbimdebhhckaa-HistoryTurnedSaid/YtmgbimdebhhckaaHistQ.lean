/- History: both. -/
import Derived.Test.YtmgbimdebhhckaaHistO
namespace Go.Proofs.Ytmgbimdebhhckaa
open Go.RowKit
set_option linter.unusedVariables false

theorem digF (o : List UInt8) (h : o.length = 32) : 0 + (u8s o).length ≤ (zs 32).length ∧ (Try.prog.info? 25).map (·.size) = some (u8s o).length ∧ splice (zs 32) 0 (u8s o) = u8s o := ⟨by simp [zs_length, h], dig_size o h, splice_32 o h⟩
set_option maxHeartbeats 4000000 in
set_option maxRecDepth 100000 in
theorem both_calls (k : Nat) : ∀ (n m : Nat) (w : World) (D : List Nat) (g base : Nat) (v : Value) (a : List UInt8) (own : Bool) (L T : List (List UInt8)), n ≤ k → (∀ y ∈ D, y < w.heap.size) → PIs w D g base v L T false → 1 ≤ m → m ≤ n → n ≤ 1099511627776 → a.length = 32 → (∀ p ∈ L, p.length = 32) → T.length + 2 * L.length ≤ 1000 →
    Calls Try.prog 33 #[.pointer (some ⟨g, 0, none⟩), .agg (u8s a).toArray, .int .i64 (m : Int), .int .i64 (n : Int), .bool own] w (BoP w D g base v T (boF a m n own L)) := by
  induction k with
  | zero => intro n m w D g base v a own L T hk hDl h h1 hmn; omega
  | succ k ih =>
    intro n m w D g base v a own L T hk hDl h h1 hmn hn ha hL hT
    obtain ⟨w1, hw1⟩ : ∃ W, w.alloc (.cells (u8s a).toArray 25) = W := ⟨_, rfl⟩
    obtain ⟨w2, hw2⟩ : ∃ W, w1.alloc (.cells (zs 32).toArray 25) = W := ⟨_, rfl⟩
    obtain ⟨w3, hw3⟩ : ∃ W, w2.alloc (.cells (zs 32).toArray 25) = W := ⟨_, rfl⟩
    have s1 : w1.heap.size = w.heap.size + 1 := by rw [← hw1]; simp
    have s2 : w2.heap.size = w.heap.size + 2 := by rw [← hw2]; simp; omega
    have s3 : w3.heap.size = w.heap.size + 3 := by rw [← hw3]; simp; omega
    have f01 : Fr [] w w1 := hw1 ▸ (Fr.refl [] w).alloc _
    have f02 : Fr [] w w2 := hw2 ▸ f01.alloc _
    have f03 : Fr [] w w3 := hw3 ▸ f02.alloc _
    have HA3 := Lib.hid (show Blk w3 w.heap.size 25 (u8s a).toArray from hw3 ▸ (hw2 ▸ (hw1 ▸ Blk.new w _ _ : Blk w1 w.heap.size 25 (u8s a).toArray).alloc _ : Blk w2 w.heap.size 25 (u8s a).toArray).alloc _)
    have HX3 := Lib.hid (show Blk w3 w1.heap.size 25 (zs 32).toArray from hw3 ▸ (hw2 ▸ Blk.new w1 _ _ : Blk w2 w1.heap.size 25 (zs 32).toArray).alloc _)
    have HY3 := Lib.hid (show Blk w3 w2.heap.size 25 (zs 32).toArray from hw3 ▸ Blk.new w2 _ _)
    have F3 := Lib.hid f03
    have hgl := h.lt
    have hvl := h.vlt
    have HAF := Lib.hid (digF a ha)
    have HP3 := Lib.hid (h.more f03 (E := w1.heap.size :: w2.heap.size :: D) (by simp [h.hd]) (fun y hy => by simp at hy; rcases hy with rfl | rfl | hy; exact .inr (by omega); exact .inr (by omega); exact .inl hy))
    have HDL := Lib.hid (show ∀ y ∈ w1.heap.size :: w2.heap.size :: D, y < w3.heap.size from fun y hy => by simp at hy; rcases hy with rfl | rfl | hy; omega; omega; have := hDl y hy; omega)
    have HDG := Lib.hid h.hd
    have HLT := Lib.hid hgl
    have HBS := Lib.hid h.hg
    have HNA := Lib.hid (show v.ownBlock ≠ some w.heap.size from fun e => by have := hvl _ e; omega)
    have HNX := Lib.hid (show v.ownBlock ≠ some w1.heap.size from fun e => by have := hvl _ e; omega)
    have HNY := Lib.hid (show v.ownBlock ≠ some w2.heap.size from fun e => by have := hvl _ e; omega)
    have HGA := Lib.hid (show w.heap.size ≠ g by omega)
    have HGX := Lib.hid (show w1.heap.size ≠ g by omega)
    have HGY := Lib.hid (show w2.heap.size ≠ g by omega)
    have HS := Lib.hid (And.intro s1 (And.intro s2 s3))
    clear f01 f02
    have htk := take_calls w3 _ g base v L T false HP3.out (by omega)
    by_cases hml : m = n
    · subst hml
      cases own with
      | true =>
        clear htk
        have HU := Lib.hid (boF_own a m L)
        have HRX := Lib.hid (show w.heap.size ≠ w1.heap.size by omega)
        have HRY := Lib.hid (show w.heap.size ≠ w2.heap.size by omega)
        have HXY := Lib.hid (show w2.heap.size ≠ w1.heap.size by omega)
        clear ih hk hDl h h1 hmn hn ha hL hT f03 hgl hvl s1 s2 s3
        go_enter Try.func33, Try.ntmps33
        go_wp2_with (first
          | (refine box_agg rfl 25 (.tmp 1) rfl (u8s a).toArray rfl ?_; rw [hw1])
          | (refine wpList_alloc_agg rfl 25 rfl (zs 32).toArray arr32_zero ?_; rw [hw2])
          | (refine wpList_alloc_agg rfl 25 rfl (zs 32).toArray arr32_zero ?_; rw [hw3]))
        have hS : RowsW [(w.heap.size, a)] w3.drew := fun r hr => by simp at hr; subst hr; exact HA3.out.drew
        refine sqs_begin (RowsW [(w.heap.size, a)]) (by kernel_rfl) ?_
        refine sqs_take (i := 0) (v := (.agg (u8s a).toArray)) (d := 24) rfl (by kernel_rfl) (by kernel_rfl) (by kernel_rfl) (by kernel_rfl) (by kernel_rfl) (fun _ _ _ h => h) ?_ (by assumption) ?_
        · intro w9 h9; exact exec_load_agg rfl w.heap.size 0 (by kernel_rfl) (u8s a) _ (RowsW.at h9 0 _ _ rfl) Try.underlying25 rfl HAF.out.2.1
        try simp only [Act.put, List.setIfInBounds_toArray, List.set_cons_zero, List.set_cons_succ]
        refine sqs_take (i := 1) (v := (.agg (u8s a).toArray)) (d := 25) rfl (by kernel_rfl) (by kernel_rfl) (by kernel_rfl) (by kernel_rfl) (by kernel_rfl) (fun _ _ _ h => h) ?_ (by assumption) ?_
        · intro w9 h9; exact exec_load_agg rfl w.heap.size 0 (by kernel_rfl) (u8s a) _ (RowsW.at h9 0 _ _ rfl) Try.underlying25 rfl HAF.out.2.1
        try simp only [Act.put, List.setIfInBounds_toArray, List.set_cons_zero, List.set_cons_succ]
        refine sqs_only (i := 2) rfl (by kernel_rfl) (by kernel_rfl) ?_
        have hr2 := fun (a₀ : Act) (o₀ : Oper) (K₀ : Act → World → Prop) (Q₀ : Exit → Act → World → Prop) => @sq_store Try.prog Q₀ a₀ o₀ w3.drew K₀ 25 (.tmp 10) (.tmp 24) w1.heap.size 0 (u8s a) (zs 32) 25
        refine hr2 _ _ _ _ ?_ ?_ ?_ ?_ ?_ ?_ ?_ ?_ ?_
        · kernel_rfl
        · kernel_rfl
        · kernel_rfl
        · kernel_rfl
        · exact HX3.out.drew
        · exact HAF.out.1
        · exact u8s_one _
        · exact HAF.out.2.1
        clear hr2
        rw [HAF.out.2.2]
        refine ⟨RowsW.set (by assumption) (by simpa using HRX.out) _, ?_⟩
        try simp only [Act.put, List.setIfInBounds_toArray, List.set_cons_zero, List.set_cons_succ]
        refine sqs_only (i := 3) rfl (by kernel_rfl) (by kernel_rfl) ?_
        have hr3 := fun (a₀ : Act) (o₀ : Oper) (K₀ : Act → World → Prop) (Q₀ : Exit → Act → World → Prop) => @sq_store Try.prog Q₀ a₀ o₀ (w3.drew.setRow w1.heap.size (u8s a).toArray) K₀ 25 (.tmp 11) (.tmp 25) w2.heap.size 0 (u8s a) (zs 32) 25
        refine hr3 _ _ _ _ ?_ ?_ ?_ ?_ ?_ ?_ ?_ ?_ ?_
        · kernel_rfl
        · kernel_rfl
        · kernel_rfl
        · kernel_rfl
        · exact (Blk.setRow_far HY3.out.drew HXY.out _)
        · exact HAF.out.1
        · exact u8s_one _
        · exact HAF.out.2.1
        clear hr3
        rw [HAF.out.2.2]
        refine ⟨RowsW.set (RowsW.set (by assumption) (by simpa using HRX.out) _) (by simpa using HRY.out) _, ?_⟩
        try simp only [Act.put, List.setIfInBounds_toArray, List.set_cons_zero, List.set_cons_succ]
        refine wpAnyH_done (by kernel_rfl) ?_ _
        go_wp2_with fail
        have hbx := ((Blk.setRow_ HX3.out.drew (u8s a).toArray).setRow_far (Ne.symm HXY.out) (u8s a).toArray)
        have hby := Blk.setRow_ (Blk.setRow_far HY3.out.drew HXY.out (u8s a).toArray) (u8s a).toArray
        try simp only [Exit.inBlock, Exit.then]
        refine bodyPost_ret (results_cell_row2 (p := 10) (q := 11) (ty := 25) rfl _ _ w1.heap.size w2.heap.size 25 (u8s a).toArray (u8s a).toArray _ rfl rfl hbx hby Try.underlying25 rfl (by rw [List.size_toArray]; exact HAF.out.2.1) (by rw [List.size_toArray]; exact HAF.out.2.1)) rfl ?_
        rw [HU.out]
        have hs := HS.out
        refine ⟨rfl, v, ?_, (((PF.of0 F3.out.drew g v).setRow (by omega) _).setRow (by omega) _)⟩
        rw [List.append_nil]
        exact (((HP3.out.fr (Fr.refl [] _).drew (by simp)).setRowN (by simp) HGX.out (by have := And.intro HNX.out HNY.out; exact this.1) (by have := HBS.out; have := HLT.out; have := HS.out; omega) _).setRowN (by simp) HGY.out (by have := And.intro HNX.out HNY.out; exact this.2) (by have := HBS.out; have := HLT.out; have := HS.out; omega) _).less HDG.out (by simp; intro y hy; exact .inr (.inr hy))
      | false =>
        rcases hLL : L.getLast? with _ | o
        · have hu := boF_none a m m false L (by simp) hLL
          have e : takeL L false = (dig0, [], true) := by simp [takeL, hLL, dig0]
          have hd0 := dig0_length
          rw [e] at htk
          obtain ⟨o, ho⟩ : ∃ o, dig0 = o := ⟨_, rfl⟩
          rw [ho] at htk hu hd0
          have HTK := Lib.hid htk; have HU := Lib.hid hu; have HOF := Lib.hid (digF o hd0)
          clear htk hu e ho hd0 hLL
          clear ih hk hDl h h1 hn ha hL hT f03 hgl hvl s1 s2 s3
          go_enter Try.func33, Try.ntmps33
          go_wp2_with (first
            | (refine box_agg rfl 25 (.tmp 1) rfl (u8s a).toArray rfl ?_; rw [hw1])
            | (refine wpList_alloc_agg rfl 25 rfl (zs 32).toArray arr32_zero ?_; rw [hw2])
            | (refine wpList_alloc_agg rfl 25 rfl (zs 32).toArray arr32_zero ?_; rw [hw3])
            | (go_at_call 43; (with_reducible refine HTK.out.mono ?_); rintro e w4 ⟨rfl, hp4, f4⟩; have HP4 := Lib.hid hp4; have HF4 := Lib.hid (PF.ofg f4 v); have HX4 := Lib.hid ((PF.ofg f4 v).blk HX3.out HGX.out HNX.out); have HY4 := Lib.hid ((PF.ofg f4 v).blk HY3.out HGY.out HNY.out); have HA4 := Lib.hid ((PF.ofg f4 v).blk HA3.out HGA.out HNA.out); clear hp4 f4 HTK)
            | (refine wpList_alloc_agg rfl 25 rfl (zs 32).toArray arr32_zero ?_)
            | (refine wpList_store_agg rfl 25 (.tmp 12) (.tmp 27) rfl w4.heap.size 0 rfl (u8s o) rfl (zs 32) 25 (Blk.new w4 _ _) HOF.out.1 (u8s_one _) HOF.out.2.1 ?_; rw [HOF.out.2.2]; obtain ⟨w5, hw5⟩ : ∃ W, (w4.alloc (.cells (zs 32).toArray 25)).setRow w4.heap.size (u8s o).toArray = W := ⟨_, rfl⟩; rw [hw5];
                have F5 := Lib.hid (show Fr [] w4 w5 from hw5 ▸ ((Fr.refl [] w4).alloc _).setRow (.inr (Nat.le_refl _)) _); have HP5 := Lib.hid (HP4.out.fr F5.out (by simp)); have HX5 := Lib.hid (HX4.out.fr F5.out (by simp)); have HY5 := Lib.hid (HY4.out.fr F5.out (by simp)); have HA5 := Lib.hid (rd_row (HA4.out.fr F5.out (by simp))); have HO5 := Lib.hid (show Blk w5 w4.heap.size 25 (u8s o).toArray from hw5 ▸ (Blk.new w4 _ _).setRow_ _); have c2 := HP5.out.cell2; clear hw5))
          have hs := HS.out
          have hs4 := HF4.out.fr.size
          have HRX := Lib.hid (show w4.heap.size ≠ w1.heap.size by omega)
          have HRY := Lib.hid (show w4.heap.size ≠ w2.heap.size by omega)
          have HXY := Lib.hid (show w2.heap.size ≠ w1.heap.size by omega)
          have hS : RowsW [(w4.heap.size, o)] w5.drew := fun r hr => by simp at hr; subst hr; exact HO5.out.drew
          refine sqs_begin (RowsW [(w4.heap.size, o)]) (by kernel_rfl) ?_
          refine sqs_take (i := 0) (v := (.agg (u8s o).toArray)) (d := 37) rfl (by kernel_rfl) (by kernel_rfl) (by kernel_rfl) (by kernel_rfl) (by kernel_rfl) (fun _ _ _ h => h) ?_ (by assumption) ?_
          · intro w9 h9; exact exec_load_agg rfl w4.heap.size 0 (by kernel_rfl) (u8s o) _ (RowsW.at h9 0 _ _ rfl) Try.underlying25 rfl HOF.out.2.1
          try simp only [Act.put, List.setIfInBounds_toArray, List.set_cons_zero, List.set_cons_succ]
          refine sqs_take (i := 1) (v := (.agg (u8s o).toArray)) (d := 38) rfl (by kernel_rfl) (by kernel_rfl) (by kernel_rfl) (by kernel_rfl) (by kernel_rfl) (fun _ _ _ h => h) ?_ (by assumption) ?_
          · intro w9 h9; exact exec_load_agg rfl w4.heap.size 0 (by kernel_rfl) (u8s o) _ (RowsW.at h9 0 _ _ rfl) Try.underlying25 rfl HOF.out.2.1
          try simp only [Act.put, List.setIfInBounds_toArray, List.set_cons_zero, List.set_cons_succ]
          refine sqs_only (i := 2) rfl (by kernel_rfl) (by kernel_rfl) ?_
          have hr2 := fun (a₀ : Act) (o₀ : Oper) (K₀ : Act → World → Prop) (Q₀ : Exit → Act → World → Prop) => @sq_store Try.prog Q₀ a₀ o₀ w5.drew K₀ 25 (.tmp 10) (.tmp 37) w1.heap.size 0 (u8s o) (zs 32) 25
          refine hr2 _ _ _ _ ?_ ?_ ?_ ?_ ?_ ?_ ?_ ?_ ?_
          · kernel_rfl
          · kernel_rfl
          · kernel_rfl
          · kernel_rfl
          · exact HX5.out.drew
          · exact HOF.out.1
          · exact u8s_one _
          · exact HOF.out.2.1
          clear hr2
          rw [HOF.out.2.2]
          refine ⟨RowsW.set (by assumption) (by simpa using HRX.out) _, ?_⟩
          try simp only [Act.put, List.setIfInBounds_toArray, List.set_cons_zero, List.set_cons_succ]
          refine sqs_only (i := 3) rfl (by kernel_rfl) (by kernel_rfl) ?_
          have hr3 := fun (a₀ : Act) (o₀ : Oper) (K₀ : Act → World → Prop) (Q₀ : Exit → Act → World → Prop) => @sq_store Try.prog Q₀ a₀ o₀ (w5.drew.setRow w1.heap.size (u8s o).toArray) K₀ 25 (.tmp 11) (.tmp 38) w2.heap.size 0 (u8s o) (zs 32) 25
          refine hr3 _ _ _ _ ?_ ?_ ?_ ?_ ?_ ?_ ?_ ?_ ?_
          · kernel_rfl
          · kernel_rfl
          · kernel_rfl
          · kernel_rfl
          · exact (Blk.setRow_far HY5.out.drew HXY.out _)
          · exact HOF.out.1
          · exact u8s_one _
          · exact HOF.out.2.1
          clear hr3
          rw [HOF.out.2.2]
          refine ⟨RowsW.set (RowsW.set (by assumption) (by simpa using HRX.out) _) (by simpa using HRY.out) _, ?_⟩
          try simp only [Act.put, List.setIfInBounds_toArray, List.set_cons_zero, List.set_cons_succ]
          refine wpAnyH_done (by kernel_rfl) ?_ _
          go_wp2_with fail
          have hbx := ((Blk.setRow_ HX5.out.drew (u8s o).toArray).setRow_far (Ne.symm HXY.out) (u8s o).toArray)
          have hby := Blk.setRow_ (Blk.setRow_far HY5.out.drew HXY.out (u8s o).toArray) (u8s o).toArray
          try simp only [Exit.inBlock, Exit.then]
          refine bodyPost_ret (results_cell_row2 (p := 10) (q := 11) (ty := 25) rfl _ _ w1.heap.size w2.heap.size 25 (u8s o).toArray (u8s o).toArray _ rfl rfl hbx hby Try.underlying25 rfl (by rw [List.size_toArray]; exact HOF.out.2.1) (by rw [List.size_toArray]; exact HOF.out.2.1)) rfl ?_
          rw [HU.out]
          refine ⟨rfl, v, ?_, (((((PF.of0 F3.out g v).trans HF4.out).trans (PF.of0 F5.out.drew g v)).setRow (by omega) _).setRow (by omega) _)⟩
          rw [List.append_nil]
          exact (((HP5.out.fr (Fr.refl [] _).drew (by simp)).setRowN (by simp) HGX.out (by have := And.intro HNX.out HNY.out; exact this.1) (by have := HBS.out; have := HLT.out; have := HS.out; omega) _).setRowN (by simp) HGY.out (by have := And.intro HNX.out HNY.out; exact this.2) (by have := HBS.out; have := HLT.out; have := HS.out; omega) _).less HDG.out (by simp; intro y hy; exact .inr (.inr hy))
        · have hu := boF_all a m m false L o (by simp) hLL rfl
          have e : takeL L false = (o, L.dropLast, false) := by simp [takeL, hLL]
          have ho32 := last_all hLL hL
          rw [e] at htk
          have HTK := Lib.hid htk; have HU := Lib.hid hu; have HOF := Lib.hid (digF o ho32.1)
          clear htk hu e hLL ho32
          clear ih hk hDl h h1 hn ha hL hT f03 hgl hvl s1 s2 s3
          go_enter Try.func33, Try.ntmps33
          go_wp2_with (first
            | (refine box_agg rfl 25 (.tmp 1) rfl (u8s a).toArray rfl ?_; rw [hw1])
            | (refine wpList_alloc_agg rfl 25 rfl (zs 32).toArray arr32_zero ?_; rw [hw2])
            | (refine wpList_alloc_agg rfl 25 rfl (zs 32).toArray arr32_zero ?_; rw [hw3])
            | (go_at_call 43; (with_reducible refine HTK.out.mono ?_); rintro e w4 ⟨rfl, hp4, f4⟩; have HP4 := Lib.hid hp4; have HF4 := Lib.hid (PF.ofg f4 v); have HX4 := Lib.hid ((PF.ofg f4 v).blk HX3.out HGX.out HNX.out); have HY4 := Lib.hid ((PF.ofg f4 v).blk HY3.out HGY.out HNY.out); have HA4 := Lib.hid ((PF.ofg f4 v).blk HA3.out HGA.out HNA.out); clear hp4 f4 HTK)
            | (refine wpList_alloc_agg rfl 25 rfl (zs 32).toArray arr32_zero ?_)
            | (refine wpList_store_agg rfl 25 (.tmp 12) (.tmp 27) rfl w4.heap.size 0 rfl (u8s o) rfl (zs 32) 25 (Blk.new w4 _ _) HOF.out.1 (u8s_one _) HOF.out.2.1 ?_; rw [HOF.out.2.2]; obtain ⟨w5, hw5⟩ : ∃ W, (w4.alloc (.cells (zs 32).toArray 25)).setRow w4.heap.size (u8s o).toArray = W := ⟨_, rfl⟩; rw [hw5];
                have F5 := Lib.hid (show Fr [] w4 w5 from hw5 ▸ ((Fr.refl [] w4).alloc _).setRow (.inr (Nat.le_refl _)) _); have HP5 := Lib.hid (HP4.out.fr F5.out (by simp)); have HX5 := Lib.hid (HX4.out.fr F5.out (by simp)); have HY5 := Lib.hid (HY4.out.fr F5.out (by simp)); have HA5 := Lib.hid (rd_row (HA4.out.fr F5.out (by simp))); have HO5 := Lib.hid (show Blk w5 w4.heap.size 25 (u8s o).toArray from hw5 ▸ (Blk.new w4 _ _).setRow_ _); have c2 := HP5.out.cell2; clear hw5))
          have hs := HS.out
          have hs4 := HF4.out.fr.size
          have HRX := Lib.hid (show w4.heap.size ≠ w1.heap.size by omega)
          have HRY := Lib.hid (show w4.heap.size ≠ w2.heap.size by omega)
          have HXY := Lib.hid (show w2.heap.size ≠ w1.heap.size by omega)
          have hS : RowsW [(w4.heap.size, o)] w5.drew := fun r hr => by simp at hr; subst hr; exact HO5.out.drew
          refine sqs_begin (RowsW [(w4.heap.size, o)]) (by kernel_rfl) ?_
          refine sqs_take (i := 0) (v := (.agg (u8s o).toArray)) (d := 37) rfl (by kernel_rfl) (by kernel_rfl) (by kernel_rfl) (by kernel_rfl) (by kernel_rfl) (fun _ _ _ h => h) ?_ (by assumption) ?_
          · intro w9 h9; exact exec_load_agg rfl w4.heap.size 0 (by kernel_rfl) (u8s o) _ (RowsW.at h9 0 _ _ rfl) Try.underlying25 rfl HOF.out.2.1
          try simp only [Act.put, List.setIfInBounds_toArray, List.set_cons_zero, List.set_cons_succ]
          refine sqs_take (i := 1) (v := (.agg (u8s o).toArray)) (d := 38) rfl (by kernel_rfl) (by kernel_rfl) (by kernel_rfl) (by kernel_rfl) (by kernel_rfl) (fun _ _ _ h => h) ?_ (by assumption) ?_
          · intro w9 h9; exact exec_load_agg rfl w4.heap.size 0 (by kernel_rfl) (u8s o) _ (RowsW.at h9 0 _ _ rfl) Try.underlying25 rfl HOF.out.2.1
          try simp only [Act.put, List.setIfInBounds_toArray, List.set_cons_zero, List.set_cons_succ]
          refine sqs_only (i := 2) rfl (by kernel_rfl) (by kernel_rfl) ?_
          have hr2 := fun (a₀ : Act) (o₀ : Oper) (K₀ : Act → World → Prop) (Q₀ : Exit → Act → World → Prop) => @sq_store Try.prog Q₀ a₀ o₀ w5.drew K₀ 25 (.tmp 10) (.tmp 37) w1.heap.size 0 (u8s o) (zs 32) 25
          refine hr2 _ _ _ _ ?_ ?_ ?_ ?_ ?_ ?_ ?_ ?_ ?_
          · kernel_rfl
          · kernel_rfl
          · kernel_rfl
          · kernel_rfl
          · exact HX5.out.drew
          · exact HOF.out.1
          · exact u8s_one _
          · exact HOF.out.2.1
          clear hr2
          rw [HOF.out.2.2]
          refine ⟨RowsW.set (by assumption) (by simpa using HRX.out) _, ?_⟩
          try simp only [Act.put, List.setIfInBounds_toArray, List.set_cons_zero, List.set_cons_succ]
          refine sqs_only (i := 3) rfl (by kernel_rfl) (by kernel_rfl) ?_
          have hr3 := fun (a₀ : Act) (o₀ : Oper) (K₀ : Act → World → Prop) (Q₀ : Exit → Act → World → Prop) => @sq_store Try.prog Q₀ a₀ o₀ (w5.drew.setRow w1.heap.size (u8s o).toArray) K₀ 25 (.tmp 11) (.tmp 38) w2.heap.size 0 (u8s o) (zs 32) 25
          refine hr3 _ _ _ _ ?_ ?_ ?_ ?_ ?_ ?_ ?_ ?_ ?_
          · kernel_rfl
          · kernel_rfl
          · kernel_rfl
          · kernel_rfl
          · exact (Blk.setRow_far HY5.out.drew HXY.out _)
          · exact HOF.out.1
          · exact u8s_one _
          · exact HOF.out.2.1
          clear hr3
          rw [HOF.out.2.2]
          refine ⟨RowsW.set (RowsW.set (by assumption) (by simpa using HRX.out) _) (by simpa using HRY.out) _, ?_⟩
          try simp only [Act.put, List.setIfInBounds_toArray, List.set_cons_zero, List.set_cons_succ]
          refine wpAnyH_done (by kernel_rfl) ?_ _
          go_wp2_with fail
          have hbx := ((Blk.setRow_ HX5.out.drew (u8s o).toArray).setRow_far (Ne.symm HXY.out) (u8s o).toArray)
          have hby := Blk.setRow_ (Blk.setRow_far HY5.out.drew HXY.out (u8s o).toArray) (u8s o).toArray
          try simp only [Exit.inBlock, Exit.then]
          refine bodyPost_ret (results_cell_row2 (p := 10) (q := 11) (ty := 25) rfl _ _ w1.heap.size w2.heap.size 25 (u8s o).toArray (u8s o).toArray _ rfl rfl hbx hby Try.underlying25 rfl (by rw [List.size_toArray]; exact HOF.out.2.1) (by rw [List.size_toArray]; exact HOF.out.2.1)) rfl ?_
          rw [HU.out]
          refine ⟨rfl, v, ?_, (((((PF.of0 F3.out g v).trans HF4.out).trans (PF.of0 F5.out.drew g v)).setRow (by omega) _).setRow (by omega) _)⟩
          rw [List.append_nil]
          exact (((HP5.out.fr (Fr.refl [] _).drew (by simp)).setRowN (by simp) HGX.out (by have := And.intro HNX.out HNY.out; exact this.1) (by have := HBS.out; have := HLT.out; have := HS.out; omega) _).setRowN (by simp) HGY.out (by have := And.intro HNX.out HNY.out; exact this.2) (by have := HBS.out; have := HLT.out; have := HS.out; omega) _).less HDG.out (by simp; intro y hy; exact .inr (.inr hy))
    · have hmnI : ((m : Int) == (n : Int)) = false := by rw [beq_eq_false_iff_ne]; omega
      rcases hLL : L.getLast? with _ | o
      · have hu := boF_none a m n own L (fun h => hml h.1) hLL
        have e : takeL L false = (dig0, [], true) := by simp [takeL, hLL, dig0]
        have hd0 := dig0_length
        rw [e] at htk
        obtain ⟨o, ho⟩ : ∃ o, dig0 = o := ⟨_, rfl⟩
        rw [ho] at htk hu hd0
        have HTK := Lib.hid htk; have HU := Lib.hid hu; have HOF := Lib.hid (digF o hd0)
        clear htk hu e ho hd0 hLL hml
        clear ih hk hDl h h1 hn ha hL hT f03 hgl hvl s1 s2 s3 hmn
        go_enter Try.func33, Try.ntmps33
        go_wp2_with (first
          | (refine box_agg rfl 25 (.tmp 1) rfl (u8s a).toArray rfl ?_; rw [hw1])
          | (refine wpList_alloc_agg rfl 25 rfl (zs 32).toArray arr32_zero ?_; rw [hw2])
          | (refine wpList_alloc_agg rfl 25 rfl (zs 32).toArray arr32_zero ?_; rw [hw3])
          | (go_at_call 43; (with_reducible refine HTK.out.mono ?_); rintro e w4 ⟨rfl, hp4, f4⟩; have HP4 := Lib.hid hp4; have HF4 := Lib.hid (PF.ofg f4 v); have HX4 := Lib.hid ((PF.ofg f4 v).blk HX3.out HGX.out HNX.out); have HY4 := Lib.hid ((PF.ofg f4 v).blk HY3.out HGY.out HNY.out); have HA4 := Lib.hid ((PF.ofg f4 v).blk HA3.out HGA.out HNA.out); clear hp4 f4 HTK)
          | (refine wpList_alloc_agg rfl 25 rfl (zs 32).toArray arr32_zero ?_)
          | (refine wpList_store_agg rfl 25 (.tmp 12) (.tmp 27) rfl w4.heap.size 0 rfl (u8s o) rfl (zs 32) 25 (Blk.new w4 _ _) HOF.out.1 (u8s_one _) HOF.out.2.1 ?_; rw [HOF.out.2.2]; obtain ⟨w5, hw5⟩ : ∃ W, (w4.alloc (.cells (zs 32).toArray 25)).setRow w4.heap.size (u8s o).toArray = W := ⟨_, rfl⟩; rw [hw5];
              have F5 := Lib.hid (show Fr [] w4 w5 from hw5 ▸ ((Fr.refl [] w4).alloc _).setRow (.inr (Nat.le_refl _)) _); have HP5 := Lib.hid (HP4.out.fr F5.out (by simp)); have HX5 := Lib.hid (HX4.out.fr F5.out (by simp)); have HY5 := Lib.hid (HY4.out.fr F5.out (by simp)); have HA5 := Lib.hid (rd_row (HA4.out.fr F5.out (by simp))); have HO5 := Lib.hid (show Blk w5 w4.heap.size 25 (u8s o).toArray from hw5 ▸ (Blk.new w4 _ _).setRow_ _); have c2 := HP5.out.cell2; clear hw5))
        have hs := HS.out
        have hs4 := HF4.out.fr.size
        have HRX := Lib.hid (show w4.heap.size ≠ w1.heap.size by omega)
        have HRY := Lib.hid (show w4.heap.size ≠ w2.heap.size by omega)
        have HXY := Lib.hid (show w2.heap.size ≠ w1.heap.size by omega)
        have hS : RowsW [(w4.heap.size, o)] w5.drew := fun r hr => by simp at hr; subst hr; exact HO5.out.drew
        refine sqs_begin (RowsW [(w4.heap.size, o)]) (by kernel_rfl) ?_
        refine sqs_take (i := 0) (v := (.agg (u8s o).toArray)) (d := 37) rfl (by kernel_rfl) (by kernel_rfl) (by kernel_rfl) (by kernel_rfl) (by kernel_rfl) (fun _ _ _ h => h) ?_ (by assumption) ?_
        · intro w9 h9; exact exec_load_agg rfl w4.heap.size 0 (by kernel_rfl) (u8s o) _ (RowsW.at h9 0 _ _ rfl) Try.underlying25 rfl HOF.out.2.1
        try simp only [Act.put, List.setIfInBounds_toArray, List.set_cons_zero, List.set_cons_succ]
        refine sqs_take (i := 1) (v := (.agg (u8s o).toArray)) (d := 38) rfl (by kernel_rfl) (by kernel_rfl) (by kernel_rfl) (by kernel_rfl) (by kernel_rfl) (fun _ _ _ h => h) ?_ (by assumption) ?_
        · intro w9 h9; exact exec_load_agg rfl w4.heap.size 0 (by kernel_rfl) (u8s o) _ (RowsW.at h9 0 _ _ rfl) Try.underlying25 rfl HOF.out.2.1
        try simp only [Act.put, List.setIfInBounds_toArray, List.set_cons_zero, List.set_cons_succ]
        refine sqs_only (i := 2) rfl (by kernel_rfl) (by kernel_rfl) ?_
        have hr2 := fun (a₀ : Act) (o₀ : Oper) (K₀ : Act → World → Prop) (Q₀ : Exit → Act → World → Prop) => @sq_store Try.prog Q₀ a₀ o₀ w5.drew K₀ 25 (.tmp 10) (.tmp 37) w1.heap.size 0 (u8s o) (zs 32) 25
        refine hr2 _ _ _ _ ?_ ?_ ?_ ?_ ?_ ?_ ?_ ?_ ?_
        · kernel_rfl
        · kernel_rfl
        · kernel_rfl
        · kernel_rfl
        · exact HX5.out.drew
        · exact HOF.out.1
        · exact u8s_one _
        · exact HOF.out.2.1
        clear hr2
        rw [HOF.out.2.2]
        refine ⟨RowsW.set (by assumption) (by simpa using HRX.out) _, ?_⟩
        try simp only [Act.put, List.setIfInBounds_toArray, List.set_cons_zero, List.set_cons_succ]
        refine sqs_only (i := 3) rfl (by kernel_rfl) (by kernel_rfl) ?_
        have hr3 := fun (a₀ : Act) (o₀ : Oper) (K₀ : Act → World → Prop) (Q₀ : Exit → Act → World → Prop) => @sq_store Try.prog Q₀ a₀ o₀ (w5.drew.setRow w1.heap.size (u8s o).toArray) K₀ 25 (.tmp 11) (.tmp 38) w2.heap.size 0 (u8s o) (zs 32) 25
        refine hr3 _ _ _ _ ?_ ?_ ?_ ?_ ?_ ?_ ?_ ?_ ?_
        · kernel_rfl
        · kernel_rfl
        · kernel_rfl
        · kernel_rfl
        · exact (Blk.setRow_far HY5.out.drew HXY.out _)
        · exact HOF.out.1
        · exact u8s_one _
        · exact HOF.out.2.1
        clear hr3
        rw [HOF.out.2.2]
        refine ⟨RowsW.set (RowsW.set (by assumption) (by simpa using HRX.out) _) (by simpa using HRY.out) _, ?_⟩
        try simp only [Act.put, List.setIfInBounds_toArray, List.set_cons_zero, List.set_cons_succ]
        refine wpAnyH_done (by kernel_rfl) ?_ _
        go_wp2_with fail
        have hbx := ((Blk.setRow_ HX5.out.drew (u8s o).toArray).setRow_far (Ne.symm HXY.out) (u8s o).toArray)
        have hby := Blk.setRow_ (Blk.setRow_far HY5.out.drew HXY.out (u8s o).toArray) (u8s o).toArray
        try simp only [Exit.inBlock, Exit.then]
        refine bodyPost_ret (results_cell_row2 (p := 10) (q := 11) (ty := 25) rfl _ _ w1.heap.size w2.heap.size 25 (u8s o).toArray (u8s o).toArray _ rfl rfl hbx hby Try.underlying25 rfl (by rw [List.size_toArray]; exact HOF.out.2.1) (by rw [List.size_toArray]; exact HOF.out.2.1)) rfl ?_
        rw [HU.out]
        refine ⟨rfl, v, ?_, (((((PF.of0 F3.out g v).trans HF4.out).trans (PF.of0 F5.out.drew g v)).setRow (by omega) _).setRow (by omega) _)⟩
        rw [List.append_nil]
        exact (((HP5.out.fr (Fr.refl [] _).drew (by simp)).setRowN (by simp) HGX.out (by have := And.intro HNX.out HNY.out; exact this.1) (by have := HBS.out; have := HLT.out; have := HS.out; omega) _).setRowN (by simp) HGY.out (by have := And.intro HNX.out HNY.out; exact this.2) (by have := HBS.out; have := HLT.out; have := HS.out; omega) _).less HDG.out (by simp; intro y hy; exact .inr (.inr hy))
      · obtain ⟨_, _, g1, g2, g3⟩ := halfN_spec n (by omega) (by omega)
        have heq := hfN_eq n (by omega) (by omega)
        have HHC := Lib.hid (fun w' => half_calls w' n (by omega) (by omega))
        obtain ⟨H, hH⟩ : ∃ H, halfN n = H := ⟨_, rfl⟩
        rw [hH] at g1 g2 g3 heq HHC
        have e : takeL L false = (o, L.dropLast, false) := by simp [takeL, hLL]
        rw [e] at htk
        have ho32 := last_all hLL hL
        have hlen1 := last_len hLL
        have HTK := Lib.hid htk; have HOF := Lib.hid (digF o ho32.1)
        clear e
        by_cases hmH : m ≤ H
        · have hu := boF_left a m n own L o (by omega) (by omega) hLL (by rw [heq]; exact hmH)
          rw [heq] at hu
          have hIH := fun (w5 : World) (hd5 : ∀ y ∈ w1.heap.size :: w2.heap.size :: D, y < w5.heap.size) (hp5 : PIs w5 (w1.heap.size :: w2.heap.size :: D) g base v L.dropLast T false) => ih H m w5 (w1.heap.size :: w2.heap.size :: D) g base v a own L.dropLast T (by omega) hd5 hp5 (by omega) (by omega) (by omega) ha ho32.2 (by omega)
          have h32 := boF_32 a ha H m own L.dropLast (by omega) (by omega) ho32.2
          obtain ⟨R, hR⟩ : ∃ R, boF a m H own L.dropLast = R := ⟨_, rfl⟩
          rw [hR] at hu h32 hIH
          have HU := Lib.hid hu; have HIH := Lib.hid hIH
          obtain ⟨hx32, hy32, _, hNl, _⟩ := h32
          have HRXF := Lib.hid (digF R.x hx32); have HRYF := Lib.hid (digF R.y hy32)
          have HN1 := Lib.hid (show (preB 78 [R.y, o]).length = 81 from preB_node _ _ hy32 ho32.1 78)
          have HNC := Lib.hid (fun w8 => node_calls w8 R.y o hy32 ho32.1)
          have HZ1 := Lib.hid (digF _ (shaB_length (nodeB R.y o)))
          have HTB := Lib.hid (show (T ++ R.N).length + 1 ≤ 1000000 by rw [List.length_append]; omega)
          have hI2 : (0 : Int) ≤ (m : Int) ∧ (m : Int) ≤ (n : Int) ∧ (n : Int) ≤ 1099511627776 ∧ (1 : Int) ≤ (H : Int) ∧ (H : Int) < (n : Int) := by omega
          have hmI : (m : Int) ≤ (H : Int) := by omega
          clear htk hu hIH hR hx32 hy32 hNl ih hk hDl h h1 hmn hn ha hL hT f03 hgl hvl s1 s2 s3 g1 g2 g3 heq hH hLL hmH ho32 hlen1 hml
          go_enter Try.func33, Try.ntmps33
          go_wp2_with (first
            | (refine box_agg rfl 25 (.tmp 1) rfl (u8s a).toArray rfl ?_; rw [hw1])
            | (refine wpList_alloc_agg rfl 25 rfl (zs 32).toArray arr32_zero ?_; rw [hw2])
            | (refine wpList_alloc_agg rfl 25 rfl (zs 32).toArray arr32_zero ?_; rw [hw3])
            | (go_at_call 22; (with_reducible refine (HHC.out _).mono ?_); rintro e w6 ⟨rfl, rfl⟩)
            | (go_at_call 43; (with_reducible refine HTK.out.mono ?_); rintro e w4 ⟨rfl, hp4, f4⟩; have HP4 := Lib.hid hp4; have HF4 := Lib.hid (PF.ofg f4 v); have HX4 := Lib.hid ((PF.ofg f4 v).blk HX3.out HGX.out HNX.out); have HY4 := Lib.hid ((PF.ofg f4 v).blk HY3.out HGY.out HNY.out); have HA4 := Lib.hid ((PF.ofg f4 v).blk HA3.out HGA.out HNA.out); clear hp4 f4 HTK)
            | (refine wpList_alloc_agg rfl 25 rfl (zs 32).toArray arr32_zero ?_; rw [hwa])
            | (refine wpList_alloc_agg rfl 25 rfl (zs 32).toArray arr32_zero ?_; rw [hwb])
            | (refine wpList_alloc_agg rfl 25 rfl (zs 32).toArray arr32_zero ?_)
            | (refine wpList_store_agg rfl 25 (.tmp 12) (.tmp 27) rfl w4.heap.size 0 rfl (u8s o) rfl (zs 32) 25 (Blk.new w4 _ _) HOF.out.1 (u8s_one _) HOF.out.2.1 ?_; rw [HOF.out.2.2]; obtain ⟨w5, hw5⟩ : ∃ W, (w4.alloc (.cells (zs 32).toArray 25)).setRow w4.heap.size (u8s o).toArray = W := ⟨_, rfl⟩; rw [hw5];
                have F5 := Lib.hid (show Fr [] w4 w5 from hw5 ▸ ((Fr.refl [] w4).alloc _).setRow (.inr (Nat.le_refl _)) _); have HP5 := Lib.hid (HP4.out.fr F5.out (by simp)); have HX5 := Lib.hid (HX4.out.fr F5.out (by simp)); have HY5 := Lib.hid (HY4.out.fr F5.out (by simp)); have HA5 := Lib.hid (rd_row (HA4.out.fr F5.out (by simp))); have HO5 := Lib.hid (show Blk w5 w4.heap.size 25 (u8s o).toArray from hw5 ▸ (Blk.new w4 _ _).setRow_ _); have c2 := HP5.out.cell2; clear hw5; have HD5 := Lib.hid (show ∀ y ∈ w1.heap.size :: w2.heap.size :: D, y < w5.heap.size from fun y hy => Nat.lt_of_lt_of_le (HDL.out y hy) (Nat.le_trans HF4.out.fr.size F5.out.size)); have HI5 := Lib.hid (HIH.out w5 HD5.out HP5.out))
            | (refine wpList_load_agg rfl 25 (.tmp 6) rfl w.heap.size 0 rfl (u8s a) _ HA5.out Try.underlying25 rfl HAF.out.2.1 ?_)
            | (go_at_call 33; (with_reducible refine HI5.out.mono ?_); rintro e w6 ⟨rfl, v6, hp6, hf6⟩; have HP6 := Lib.hid hp6; have HF6 := Lib.hid hf6; have HX6 := Lib.hid (hf6.blk HX5.out HGX.out HNX.out); have HY6 := Lib.hid (hf6.blk HY5.out HGY.out HNY.out); have HO6 := Lib.hid (hf6.blk HO5.out (by have := HP4.out.lt; omega) (fun e => by have := HP4.out.vlt _ e; omega)); clear hp6 hf6; obtain ⟨wa, hwa⟩ : ∃ W, w6.alloc (.cells (zs 32).toArray 25) = W := ⟨_, rfl⟩; obtain ⟨wb, hwb⟩ : ∃ W, wa.alloc (.cells (zs 32).toArray 25) = W := ⟨_, rfl⟩;
                have HSA := Lib.hid (show wa.heap.size = w6.heap.size + 1 from hwa ▸ by simp); have FB := Lib.hid (show Fr [] w6 wb from hwb ▸ (hwa ▸ (Fr.refl [] w6).alloc _ : Fr [] w6 wa).alloc _); have HBX := Lib.hid (show Blk wb w6.heap.size 25 (zs 32).toArray from hwb ▸ (hwa ▸ Blk.new w6 _ _ : Blk wa w6.heap.size 25 (zs 32).toArray).alloc _); have HBY := Lib.hid (show Blk wb wa.heap.size 25 (zs 32).toArray from hwb ▸ Blk.new wa _ _))
            | (refine wpList_store_agg rfl 25 (.tmp 14) (.tmp 51) rfl w6.heap.size 0 rfl (u8s R.x) rfl (zs 32) 25 HBX.out HRXF.out.1 (u8s_one _) HRXF.out.2.1 ?_; rw [HRXF.out.2.2])
            | (refine wpList_store_agg rfl 25 (.tmp 15) (.tmp 52) rfl wa.heap.size 0 rfl (u8s R.y) rfl (zs 32) 25 (HBY.out.setRow_far (by have := HSA.out; omega) _) HRYF.out.1 (u8s_one _) HRYF.out.2.1 ?_; rw [HRYF.out.2.2]; obtain ⟨w8, hw8⟩ : ∃ W, (wb.setRow w6.heap.size (u8s R.x).toArray).setRow wa.heap.size (u8s R.y).toArray = W := ⟨_, rfl⟩; rw [hw8];
                have F8 := Lib.hid (show Fr [] w6 w8 from hw8 ▸ (FB.out.setRow (.inr (Nat.le_refl _)) _).setRow (.inr (by have := HSA.out; omega)) _); have HP8 := Lib.hid (HP6.out.fr F8.out (by simp)); have HX8 := Lib.hid (HX6.out.fr F8.out (by simp)); have HY8 := Lib.hid (HY6.out.fr F8.out (by simp)); have HO8 := Lib.hid (HO6.out.fr F8.out (by simp)); have HQX := Lib.hid (show Blk w8 w6.heap.size 25 (u8s R.x).toArray from hw8 ▸ (HBX.out.setRow_ _).setRow_far (by have := HSA.out; omega) _); have HQY := Lib.hid (show Blk w8 wa.heap.size 25 (u8s R.y).toArray from hw8 ▸ (HBY.out.setRow_far (by have := HSA.out; omega) _).setRow_ _);
                have HD8 := Lib.hid (show ∀ y ∈ w1.heap.size :: w2.heap.size :: D, y < w8.heap.size from fun y hy => Nat.lt_of_lt_of_le (HD5.out y hy) (Nat.le_trans HF6.out.fr.size F8.out.size)); clear hw8))
          have hs := HS.out
          have hs4 := HF4.out.fr.size
          have hs5 := F5.out.size
          have hs6 := HF6.out.fr.size
          have hsa := HSA.out
          have hl4 := HP4.out.lt
          have hl6 := HP6.out.lt
          have hlo := HO5.out.lt
          have HRX := Lib.hid (show w6.heap.size ≠ w1.heap.size ∧ wa.heap.size ≠ w1.heap.size ∧ w4.heap.size ≠ w1.heap.size by omega)
          have HRY := Lib.hid (show w6.heap.size ≠ w2.heap.size ∧ wa.heap.size ≠ w2.heap.size ∧ w4.heap.size ≠ w2.heap.size by omega)
          have HXY := Lib.hid (show w2.heap.size ≠ w1.heap.size by omega)
          have HO4V := Lib.hid (show v.ownBlock ≠ some w4.heap.size from fun e => by have := HP4.out.vlt _ e; omega)
          have HRW := Lib.hid (show ∀ r ∈ ([(w6.heap.size, R.x), (wa.heap.size, R.y), (w4.heap.size, o)] : List (Nat × List UInt8)), r.1 ≠ g ∧ v6.ownBlock ≠ some r.1 from fun r hr => by
            simp at hr
            rcases hr with rfl | rfl | rfl
            · exact ⟨by show w6.heap.size ≠ g; omega, fun e => absurd (HP6.out.vlt _ e).2 (by show ¬ (w6.heap.size < w6.heap.size); omega)⟩
            · exact ⟨by show wa.heap.size ≠ g; omega, fun e => absurd (HP6.out.vlt _ e).2 (by show ¬ (wa.heap.size < w6.heap.size); omega)⟩
            · exact ⟨by show w4.heap.size ≠ g; omega, HF6.out.ne (by show w4.heap.size < _; omega) HO4V.out⟩)
          have hS : RowsW [(w6.heap.size, R.x), (wa.heap.size, R.y), (w4.heap.size, o)] w8.drew := fun r hr => by
            simp at hr
            rcases hr with rfl | rfl | rfl
            · exact HQX.out.drew
            · exact HQY.out.drew
            · exact HO8.out.drew
          have HP8D := Lib.hid (HP8.out.fr (Fr.refl [] w8).drew (by simp))
          refine sqs_begin (RowsW [(w6.heap.size, R.x), (wa.heap.size, R.y), (w4.heap.size, o)]) (by kernel_rfl) ?_
          refine sqs_take (i := 0) (v := (.agg (u8s R.x).toArray)) (d := 53) rfl (by kernel_rfl) (by kernel_rfl) (by kernel_rfl) (by kernel_rfl) (by kernel_rfl) (fun _ _ _ h => h) ?_ (by assumption) ?_
          · intro w9 h9; exact exec_load_agg rfl w6.heap.size 0 (by kernel_rfl) (u8s R.x) _ (RowsW.at h9 0 _ _ rfl) Try.underlying25 rfl HRXF.out.2.1
          try simp only [Act.put, List.setIfInBounds_toArray, List.set_cons_zero, List.set_cons_succ]
          refine sqs_take (i := 1) (v := (.pointer (some ⟨g, 0, none⟩))) (d := 54) rfl (by kernel_rfl) (by kernel_rfl) (by kernel_rfl) (by kernel_rfl) (by kernel_rfl) (fun _ _ _ h => h) ?_ (by assumption) ?_
          · intro w9 h9; kernel_rfl
          try simp only [Act.put, List.setIfInBounds_toArray, List.set_cons_zero, List.set_cons_succ]
          refine sqs_take (i := 2) (v := (.agg (u8s R.y).toArray)) (d := 55) rfl (by kernel_rfl) (by kernel_rfl) (by kernel_rfl) (by kernel_rfl) (by kernel_rfl) (fun _ _ _ h => h) ?_ (by assumption) ?_
          · intro w9 h9; exact exec_load_agg rfl wa.heap.size 0 (by kernel_rfl) (u8s R.y) _ (RowsW.at h9 1 _ _ rfl) Try.underlying25 rfl HRYF.out.2.1
          try simp only [Act.put, List.setIfInBounds_toArray, List.set_cons_zero, List.set_cons_succ]
          refine sqs_take (i := 3) (v := (.agg (u8s o).toArray)) (d := 56) rfl (by kernel_rfl) (by kernel_rfl) (by kernel_rfl) (by kernel_rfl) (by kernel_rfl) (fun _ _ _ h => h) ?_ (by assumption) ?_
          · intro w9 h9; exact exec_load_agg rfl w4.heap.size 0 (by kernel_rfl) (u8s o) _ (RowsW.at h9 2 _ _ rfl) Try.underlying25 rfl HOF.out.2.1
          try simp only [Act.put, List.setIfInBounds_toArray, List.set_cons_zero, List.set_cons_succ]
          refine sqs_only (i := 4) rfl (by kernel_rfl) (by kernel_rfl) ?_
          have hr4 := fun (a₀ : Act) (o₀ : Oper) (K₀ : Act → World → Prop) (Q₀ : Exit → Act → World → Prop) => @sq_call Try.prog Q₀ a₀ o₀ w8.drew K₀ (OwnB w8.drew (preB 78 [R.y, o])) 23 #[.agg (u8s R.y).toArray, .agg (u8s o).toArray] 57
          refine hr4 _ _ _ _ ?_ ?_ ?_ ?_
          · kernel_rfl
          · kernel_rfl
          · exact HNC.out w8.drew
          rintro e w9 ⟨A9, cA9, rfl, ho9, f9⟩
          have HO9 := Lib.hid ho9; have F9 := Lib.hid f9
          have hS9 := hS.fr0 f9
          clear ho9 f9
          refine ⟨_, rfl, hS9, ?_⟩
          clear hr4
          try simp only [Act.put, List.setIfInBounds_toArray, List.set_cons_zero, List.set_cons_succ]
          refine sqs_only (i := 5) rfl (by kernel_rfl) (by kernel_rfl) ?_
          have hr5 := fun (a₀ : Act) (o₀ : Oper) (K₀ : Act → World → Prop) (Q₀ : Exit → Act → World → Prop) => @sq_call Try.prog Q₀ a₀ o₀ w9 K₀ (fun e w' => e = .returned (.agg (u8s (shaB (nodeB R.y o))).toArray) ∧ ∃ v', PIs w' (w1.heap.size :: w2.heap.size :: D) g base v' R.L ((T ++ R.N) ++ [(nodeB R.y o)]) R.k ∧ PF w8.drew w' g v6 v') 44 #[.pointer (some ⟨g, 0, none⟩), .slice A9 (preB 78 [R.y, o]).length cA9] 58
          refine hr5 _ _ _ _ ?_ ?_ ?_ ?_
          · kernel_rfl
          · kernel_rfl
          · exact (hash_own w8.drew w9 _ g base v6 R.L (T ++ R.N) R.k HD8.out HP8D.out A9 cA9 (nodeB R.y o) HO9.out F9.out (by have := HTB.out; omega) (by have := HN1.out; show (preB 78 [R.y, o]).length ≤ 1000000; omega))
          rintro e w10 ⟨rfl, v10, hp10, hf10⟩
          have HP10 := Lib.hid hp10; have HF10 := Lib.hid hf10
          have hS10 := hS.pf hf10 HRW.out
          have HX10 := Lib.hid (hf10.blk HX8.out.drew HGX.out (HF6.out.ne HX5.out.lt HNX.out)); have HY10 := Lib.hid (hf10.blk HY8.out.drew HGY.out (HF6.out.ne HY5.out.lt HNY.out))
          clear hp10 hf10
          refine ⟨_, rfl, hS10, ?_⟩
          clear hr5
          try simp only [Act.put, List.setIfInBounds_toArray, List.set_cons_zero, List.set_cons_succ]
          refine sqs_only (i := 6) rfl (by kernel_rfl) (by kernel_rfl) ?_
          have hr6 := fun (a₀ : Act) (o₀ : Oper) (K₀ : Act → World → Prop) (Q₀ : Exit → Act → World → Prop) => @sq_store Try.prog Q₀ a₀ o₀ w10 K₀ 25 (.tmp 10) (.tmp 53) w1.heap.size 0 (u8s R.x) (zs 32) 25
          refine hr6 _ _ _ _ ?_ ?_ ?_ ?_ ?_ ?_ ?_ ?_ ?_
          · kernel_rfl
          · kernel_rfl
          · kernel_rfl
          · kernel_rfl
          · exact HX10.out
          · exact HRXF.out.1
          · exact u8s_one _
          · exact HRXF.out.2.1
          clear hr6
          rw [HRXF.out.2.2]
          refine ⟨RowsW.set (by assumption) (by simpa using HRX.out) _, ?_⟩
          try simp only [Act.put, List.setIfInBounds_toArray, List.set_cons_zero, List.set_cons_succ]
          refine sqs_only (i := 7) rfl (by kernel_rfl) (by kernel_rfl) ?_
          have hr7 := fun (a₀ : Act) (o₀ : Oper) (K₀ : Act → World → Prop) (Q₀ : Exit → Act → World → Prop) => @sq_store Try.prog Q₀ a₀ o₀ (w10.setRow w1.heap.size (u8s R.x).toArray) K₀ 25 (.tmp 11) (.tmp 58) w2.heap.size 0 (u8s (shaB (nodeB R.y o))) (zs 32) 25
          refine hr7 _ _ _ _ ?_ ?_ ?_ ?_ ?_ ?_ ?_ ?_ ?_
          · kernel_rfl
          · kernel_rfl
          · kernel_rfl
          · kernel_rfl
          · exact (Blk.setRow_far HY10.out HXY.out _)
          · exact HZ1.out.1
          · exact u8s_one _
          · exact HZ1.out.2.1
          clear hr7
          rw [HZ1.out.2.2]
          refine ⟨RowsW.set (RowsW.set (by assumption) (by simpa using HRX.out) _) (by simpa using HRY.out) _, ?_⟩
          try simp only [Act.put, List.setIfInBounds_toArray, List.set_cons_zero, List.set_cons_succ]
          refine wpAnyH_done (by kernel_rfl) ?_ _
          go_wp2_with fail
          have hbx := ((Blk.setRow_ HX10.out (u8s R.x).toArray).setRow_far (Ne.symm HXY.out) (u8s (shaB (nodeB R.y o))).toArray)
          have hby := Blk.setRow_ (Blk.setRow_far HY10.out HXY.out (u8s R.x).toArray) (u8s (shaB (nodeB R.y o))).toArray
          try simp only [Exit.inBlock, Exit.then]
          refine bodyPost_ret (results_cell_row2 (p := 10) (q := 11) (ty := 25) rfl _ _ w1.heap.size w2.heap.size 25 (u8s R.x).toArray (u8s (shaB (nodeB R.y o))).toArray _ rfl rfl hbx hby Try.underlying25 rfl (by rw [List.size_toArray]; exact HRXF.out.2.1) (by rw [List.size_toArray]; exact HZ1.out.2.1)) rfl ?_
          rw [HU.out]
          refine ⟨rfl, v10, ?_, (((((((PF.of0 F3.out g v).trans HF4.out).trans (PF.of0 F5.out g v)).trans HF6.out).trans (PF.of0 F8.out.drew g v6)).trans HF10.out).setRow (by omega) _).setRow (by omega) _⟩
          rw [← List.append_assoc]
          exact (((HP10.out).setRowN (by simp) HGX.out (by have := And.intro (HF10.out.ne HX8.out.drew.lt (HF6.out.ne HX5.out.lt HNX.out)) (HF10.out.ne HY8.out.drew.lt (HF6.out.ne HY5.out.lt HNY.out)); exact this.1) (by have := HBS.out; have := HLT.out; have := HS.out; omega) _).setRowN (by simp) HGY.out (by have := And.intro (HF10.out.ne HX8.out.drew.lt (HF6.out.ne HX5.out.lt HNX.out)) (HF10.out.ne HY8.out.drew.lt (HF6.out.ne HY5.out.lt HNY.out)); exact this.2) (by have := HBS.out; have := HLT.out; have := HS.out; omega) _).less HDG.out (by simp; intro y hy; exact .inr (.inr hy))
        · have hu := boF_right a m n own L o (by omega) (by omega) hLL (by rw [heq]; exact hmH)
          rw [heq] at hu
          have hIH := fun (w5 : World) (hd5 : ∀ y ∈ w1.heap.size :: w2.heap.size :: D, y < w5.heap.size) (hp5 : PIs w5 (w1.heap.size :: w2.heap.size :: D) g base v L.dropLast T false) => ih (n - H) (m - H) w5 (w1.heap.size :: w2.heap.size :: D) g base v a false L.dropLast T (by omega) hd5 hp5 (by omega) (by omega) (by omega) ha ho32.2 (by omega)
          rw [show ((n - H : Nat) : Int) = (n : Int) - (H : Int) by omega, show ((m - H : Nat) : Int) = (m : Int) - (H : Int) by omega] at hIH
          have h32 := boF_32 a ha (n - H) (m - H) false L.dropLast (by omega) (by omega) ho32.2
          obtain ⟨R, hR⟩ : ∃ R, boF a (m - H) (n - H) false L.dropLast = R := ⟨_, rfl⟩
          rw [hR] at hu h32 hIH
          have HU := Lib.hid hu; have HIH := Lib.hid hIH
          obtain ⟨hx32, hy32, _, hNl, _⟩ := h32
          have HRXF := Lib.hid (digF R.x hx32); have HRYF := Lib.hid (digF R.y hy32)
          have HN1 := Lib.hid (show (preB 78 [o, R.x]).length = 81 from preB_node _ _ ho32.1 hx32 78)
          have HN2 := Lib.hid (show (preB 78 [o, R.y]).length = 81 from preB_node _ _ ho32.1 hy32 78)
          have HNC := Lib.hid (fun w8 => node_calls w8 o R.x ho32.1 hx32)
          have HNC2 := Lib.hid (fun w8 => node_calls w8 o R.y ho32.1 hy32)
          have HZ1 := Lib.hid (digF _ (shaB_length (nodeB o R.x)))
          have HZ2 := Lib.hid (digF _ (shaB_length (nodeB o R.y)))
          have HTB := Lib.hid (show (T ++ R.N).length + 1 ≤ 1000000 by rw [List.length_append]; omega)
          have hI2 : (0 : Int) ≤ (m : Int) ∧ (m : Int) ≤ (n : Int) ∧ (n : Int) ≤ 1099511627776 ∧ (1 : Int) ≤ (H : Int) ∧ (H : Int) < (n : Int) := by omega
          have hmI : (H : Int) < (m : Int) := by omega
          clear htk hu hIH hR hx32 hy32 hNl ih hk hDl h h1 hmn hn ha hL hT f03 hgl hvl s1 s2 s3 g1 g2 g3 heq hH hLL hmH ho32 hlen1 hml
          go_enter Try.func33, Try.ntmps33
          go_wp2_with (first
            | (refine box_agg rfl 25 (.tmp 1) rfl (u8s a).toArray rfl ?_; rw [hw1])
            | (refine wpList_alloc_agg rfl 25 rfl (zs 32).toArray arr32_zero ?_; rw [hw2])
            | (refine wpList_alloc_agg rfl 25 rfl (zs 32).toArray arr32_zero ?_; rw [hw3])
            | (go_at_call 22; (with_reducible refine (HHC.out _).mono ?_); rintro e w6 ⟨rfl, rfl⟩)
            | (go_at_call 43; (with_reducible refine HTK.out.mono ?_); rintro e w4 ⟨rfl, hp4, f4⟩; have HP4 := Lib.hid hp4; have HF4 := Lib.hid (PF.ofg f4 v); have HX4 := Lib.hid ((PF.ofg f4 v).blk HX3.out HGX.out HNX.out); have HY4 := Lib.hid ((PF.ofg f4 v).blk HY3.out HGY.out HNY.out); have HA4 := Lib.hid ((PF.ofg f4 v).blk HA3.out HGA.out HNA.out); clear hp4 f4 HTK)
            | (refine wpList_alloc_agg rfl 25 rfl (zs 32).toArray arr32_zero ?_; rw [hwa])
            | (refine wpList_alloc_agg rfl 25 rfl (zs 32).toArray arr32_zero ?_; rw [hwb])
            | (refine wpList_alloc_agg rfl 25 rfl (zs 32).toArray arr32_zero ?_)
            | (refine wpList_store_agg rfl 25 (.tmp 12) (.tmp 27) rfl w4.heap.size 0 rfl (u8s o) rfl (zs 32) 25 (Blk.new w4 _ _) HOF.out.1 (u8s_one _) HOF.out.2.1 ?_; rw [HOF.out.2.2]; obtain ⟨w5, hw5⟩ : ∃ W, (w4.alloc (.cells (zs 32).toArray 25)).setRow w4.heap.size (u8s o).toArray = W := ⟨_, rfl⟩; rw [hw5];
                have F5 := Lib.hid (show Fr [] w4 w5 from hw5 ▸ ((Fr.refl [] w4).alloc _).setRow (.inr (Nat.le_refl _)) _); have HP5 := Lib.hid (HP4.out.fr F5.out (by simp)); have HX5 := Lib.hid (HX4.out.fr F5.out (by simp)); have HY5 := Lib.hid (HY4.out.fr F5.out (by simp)); have HA5 := Lib.hid (rd_row (HA4.out.fr F5.out (by simp))); have HO5 := Lib.hid (show Blk w5 w4.heap.size 25 (u8s o).toArray from hw5 ▸ (Blk.new w4 _ _).setRow_ _); have c2 := HP5.out.cell2; clear hw5; have HD5 := Lib.hid (show ∀ y ∈ w1.heap.size :: w2.heap.size :: D, y < w5.heap.size from fun y hy => Nat.lt_of_lt_of_le (HDL.out y hy) (Nat.le_trans HF4.out.fr.size F5.out.size)); have HI5 := Lib.hid (HIH.out w5 HD5.out HP5.out))
            | (refine wpList_load_agg rfl 25 (.tmp 6) rfl w.heap.size 0 rfl (u8s a) _ HA5.out Try.underlying25 rfl HAF.out.2.1 ?_)
            | (go_at_call 33; (with_reducible refine HI5.out.mono ?_); rintro e w6 ⟨rfl, v6, hp6, hf6⟩; have HP6 := Lib.hid hp6; have HF6 := Lib.hid hf6; have HX6 := Lib.hid (hf6.blk HX5.out HGX.out HNX.out); have HY6 := Lib.hid (hf6.blk HY5.out HGY.out HNY.out); have HO6 := Lib.hid (hf6.blk HO5.out (by have := HP4.out.lt; omega) (fun e => by have := HP4.out.vlt _ e; omega)); clear hp6 hf6; obtain ⟨wa, hwa⟩ : ∃ W, w6.alloc (.cells (zs 32).toArray 25) = W := ⟨_, rfl⟩; obtain ⟨wb, hwb⟩ : ∃ W, wa.alloc (.cells (zs 32).toArray 25) = W := ⟨_, rfl⟩;
                have HSA := Lib.hid (show wa.heap.size = w6.heap.size + 1 from hwa ▸ by simp); have FB := Lib.hid (show Fr [] w6 wb from hwb ▸ (hwa ▸ (Fr.refl [] w6).alloc _ : Fr [] w6 wa).alloc _); have HBX := Lib.hid (show Blk wb w6.heap.size 25 (zs 32).toArray from hwb ▸ (hwa ▸ Blk.new w6 _ _ : Blk wa w6.heap.size 25 (zs 32).toArray).alloc _); have HBY := Lib.hid (show Blk wb wa.heap.size 25 (zs 32).toArray from hwb ▸ Blk.new wa _ _))
            | (refine wpList_store_agg rfl 25 (.tmp 16) (.tmp 69) rfl w6.heap.size 0 rfl (u8s R.x) rfl (zs 32) 25 HBX.out HRXF.out.1 (u8s_one _) HRXF.out.2.1 ?_; rw [HRXF.out.2.2])
            | (refine wpList_store_agg rfl 25 (.tmp 17) (.tmp 70) rfl wa.heap.size 0 rfl (u8s R.y) rfl (zs 32) 25 (HBY.out.setRow_far (by have := HSA.out; omega) _) HRYF.out.1 (u8s_one _) HRYF.out.2.1 ?_; rw [HRYF.out.2.2]; obtain ⟨w8, hw8⟩ : ∃ W, (wb.setRow w6.heap.size (u8s R.x).toArray).setRow wa.heap.size (u8s R.y).toArray = W := ⟨_, rfl⟩; rw [hw8];
                have F8 := Lib.hid (show Fr [] w6 w8 from hw8 ▸ (FB.out.setRow (.inr (Nat.le_refl _)) _).setRow (.inr (by have := HSA.out; omega)) _); have HP8 := Lib.hid (HP6.out.fr F8.out (by simp)); have HX8 := Lib.hid (HX6.out.fr F8.out (by simp)); have HY8 := Lib.hid (HY6.out.fr F8.out (by simp)); have HO8 := Lib.hid (HO6.out.fr F8.out (by simp)); have HQX := Lib.hid (show Blk w8 w6.heap.size 25 (u8s R.x).toArray from hw8 ▸ (HBX.out.setRow_ _).setRow_far (by have := HSA.out; omega) _); have HQY := Lib.hid (show Blk w8 wa.heap.size 25 (u8s R.y).toArray from hw8 ▸ (HBY.out.setRow_far (by have := HSA.out; omega) _).setRow_ _);
                have HD8 := Lib.hid (show ∀ y ∈ w1.heap.size :: w2.heap.size :: D, y < w8.heap.size from fun y hy => Nat.lt_of_lt_of_le (HD5.out y hy) (Nat.le_trans HF6.out.fr.size F8.out.size)); clear hw8))
          have hs := HS.out
          have hs4 := HF4.out.fr.size
          have hs5 := F5.out.size
          have hs6 := HF6.out.fr.size
          have hsa := HSA.out
          have hl4 := HP4.out.lt
          have hl6 := HP6.out.lt
          have hlo := HO5.out.lt
          have HRX := Lib.hid (show w6.heap.size ≠ w1.heap.size ∧ wa.heap.size ≠ w1.heap.size ∧ w4.heap.size ≠ w1.heap.size by omega)
          have HRY := Lib.hid (show w6.heap.size ≠ w2.heap.size ∧ wa.heap.size ≠ w2.heap.size ∧ w4.heap.size ≠ w2.heap.size by omega)
          have HXY := Lib.hid (show w2.heap.size ≠ w1.heap.size by omega)
          have HO4V := Lib.hid (show v.ownBlock ≠ some w4.heap.size from fun e => by have := HP4.out.vlt _ e; omega)
          have HRW := Lib.hid (show ∀ r ∈ ([(w6.heap.size, R.x), (wa.heap.size, R.y), (w4.heap.size, o)] : List (Nat × List UInt8)), r.1 ≠ g ∧ v6.ownBlock ≠ some r.1 from fun r hr => by
            simp at hr
            rcases hr with rfl | rfl | rfl
            · exact ⟨by show w6.heap.size ≠ g; omega, fun e => absurd (HP6.out.vlt _ e).2 (by show ¬ (w6.heap.size < w6.heap.size); omega)⟩
            · exact ⟨by show wa.heap.size ≠ g; omega, fun e => absurd (HP6.out.vlt _ e).2 (by show ¬ (wa.heap.size < w6.heap.size); omega)⟩
            · exact ⟨by show w4.heap.size ≠ g; omega, HF6.out.ne (by show w4.heap.size < _; omega) HO4V.out⟩)
          have hS : RowsW [(w6.heap.size, R.x), (wa.heap.size, R.y), (w4.heap.size, o)] w8.drew := fun r hr => by
            simp at hr
            rcases hr with rfl | rfl | rfl
            · exact HQX.out.drew
            · exact HQY.out.drew
            · exact HO8.out.drew
          have HP8D := Lib.hid (HP8.out.fr (Fr.refl [] w8).drew (by simp))
          refine sqs_begin (RowsW [(w6.heap.size, R.x), (wa.heap.size, R.y), (w4.heap.size, o)]) (by kernel_rfl) ?_
          refine sqs_take (i := 0) (v := (.pointer (some ⟨g, 0, none⟩))) (d := 71) rfl (by kernel_rfl) (by kernel_rfl) (by kernel_rfl) (by kernel_rfl) (by kernel_rfl) (fun _ _ _ h => h) ?_ (by assumption) ?_
          · intro w9 h9; kernel_rfl
          try simp only [Act.put, List.setIfInBounds_toArray, List.set_cons_zero, List.set_cons_succ]
          refine sqs_take (i := 1) (v := (.agg (u8s o).toArray)) (d := 72) rfl (by kernel_rfl) (by kernel_rfl) (by kernel_rfl) (by kernel_rfl) (by kernel_rfl) (fun _ _ _ h => h) ?_ (by assumption) ?_
          · intro w9 h9; exact exec_load_agg rfl w4.heap.size 0 (by kernel_rfl) (u8s o) _ (RowsW.at h9 2 _ _ rfl) Try.underlying25 rfl HOF.out.2.1
          try simp only [Act.put, List.setIfInBounds_toArray, List.set_cons_zero, List.set_cons_succ]
          refine sqs_take (i := 2) (v := (.agg (u8s R.x).toArray)) (d := 73) rfl (by kernel_rfl) (by kernel_rfl) (by kernel_rfl) (by kernel_rfl) (by kernel_rfl) (fun _ _ _ h => h) ?_ (by assumption) ?_
          · intro w9 h9; exact exec_load_agg rfl w6.heap.size 0 (by kernel_rfl) (u8s R.x) _ (RowsW.at h9 0 _ _ rfl) Try.underlying25 rfl HRXF.out.2.1
          try simp only [Act.put, List.setIfInBounds_toArray, List.set_cons_zero, List.set_cons_succ]
          refine sqs_take (i := 5) (v := (.pointer (some ⟨g, 0, none⟩))) (d := 76) rfl (by kernel_rfl) (by kernel_rfl) (by kernel_rfl) (by kernel_rfl) (by kernel_rfl) (fun _ _ _ h => h) ?_ (by assumption) ?_
          · intro w9 h9; kernel_rfl
          try simp only [Act.put, List.setIfInBounds_toArray, List.set_cons_zero, List.set_cons_succ]
          refine sqs_take (i := 6) (v := (.agg (u8s o).toArray)) (d := 77) rfl (by kernel_rfl) (by kernel_rfl) (by kernel_rfl) (by kernel_rfl) (by kernel_rfl) (fun _ _ _ h => h) ?_ (by assumption) ?_
          · intro w9 h9; exact exec_load_agg rfl w4.heap.size 0 (by kernel_rfl) (u8s o) _ (RowsW.at h9 2 _ _ rfl) Try.underlying25 rfl HOF.out.2.1
          try simp only [Act.put, List.setIfInBounds_toArray, List.set_cons_zero, List.set_cons_succ]
          refine sqs_take (i := 7) (v := (.agg (u8s R.y).toArray)) (d := 78) rfl (by kernel_rfl) (by kernel_rfl) (by kernel_rfl) (by kernel_rfl) (by kernel_rfl) (fun _ _ _ h => h) ?_ (by assumption) ?_
          · intro w9 h9; exact exec_load_agg rfl wa.heap.size 0 (by kernel_rfl) (u8s R.y) _ (RowsW.at h9 1 _ _ rfl) Try.underlying25 rfl HRYF.out.2.1
          try simp only [Act.put, List.setIfInBounds_toArray, List.set_cons_zero, List.set_cons_succ]
          refine sqs_only (i := 3) rfl (by kernel_rfl) (by kernel_rfl) ?_
          have hr3 := fun (a₀ : Act) (o₀ : Oper) (K₀ : Act → World → Prop) (Q₀ : Exit → Act → World → Prop) => @sq_call Try.prog Q₀ a₀ o₀ w8.drew K₀ (OwnB w8.drew (preB 78 [o, R.x])) 23 #[.agg (u8s o).toArray, .agg (u8s R.x).toArray] 74
          refine hr3 _ _ _ _ ?_ ?_ ?_ ?_
          · kernel_rfl
          · kernel_rfl
          · exact HNC.out w8.drew
          rintro e w9 ⟨A9, cA9, rfl, ho9, f9⟩
          have HO9 := Lib.hid ho9; have F9 := Lib.hid f9
          have hS9 := hS.fr0 f9
          clear ho9 f9
          refine ⟨_, rfl, hS9, ?_⟩
          clear hr3
          try simp only [Act.put, List.setIfInBounds_toArray, List.set_cons_zero, List.set_cons_succ]
          refine sqs_only (i := 4) rfl (by kernel_rfl) (by kernel_rfl) ?_
          have hr4 := fun (a₀ : Act) (o₀ : Oper) (K₀ : Act → World → Prop) (Q₀ : Exit → Act → World → Prop) => @sq_call Try.prog Q₀ a₀ o₀ w9 K₀ (fun e w' => e = .returned (.agg (u8s (shaB (nodeB o R.x))).toArray) ∧ ∃ v', PIs w' (w1.heap.size :: w2.heap.size :: D) g base v' R.L ((T ++ R.N) ++ [(nodeB o R.x)]) R.k ∧ PF w8.drew w' g v6 v') 44 #[.pointer (some ⟨g, 0, none⟩), .slice A9 (preB 78 [o, R.x]).length cA9] 75
          refine hr4 _ _ _ _ ?_ ?_ ?_ ?_
          · kernel_rfl
          · kernel_rfl
          · exact (hash_own w8.drew w9 _ g base v6 R.L (T ++ R.N) R.k HD8.out HP8D.out A9 cA9 (nodeB o R.x) HO9.out F9.out (by have := HTB.out; omega) (by have := HN1.out; show (preB 78 [o, R.x]).length ≤ 1000000; omega))
          rintro e w10 ⟨rfl, v10, hp10, hf10⟩
          have HP10 := Lib.hid hp10; have HF10 := Lib.hid hf10
          have hS10 := hS.pf hf10 HRW.out
          have HX10 := Lib.hid (hf10.blk HX8.out.drew HGX.out (HF6.out.ne HX5.out.lt HNX.out)); have HY10 := Lib.hid (hf10.blk HY8.out.drew HGY.out (HF6.out.ne HY5.out.lt HNY.out))
          have HD10 := Lib.hid (show ∀ y ∈ w1.heap.size :: w2.heap.size :: D, y < w10.heap.size from fun y hy => Nat.lt_of_lt_of_le (HD8.out y hy) hf10.fr.size)
          have HRW2 := Lib.hid (show ∀ r ∈ ([(w6.heap.size, R.x), (wa.heap.size, R.y), (w4.heap.size, o)] : List (Nat × List UInt8)), r.1 ≠ g ∧ v10.ownBlock ≠ some r.1 from fun r hr => ⟨(HRW.out r hr).1, hf10.ne (hS r hr).lt (HRW.out r hr).2⟩)
          clear hp10 hf10 HO9 F9 hS9
          refine ⟨_, rfl, hS10, ?_⟩
          clear hr4
          try simp only [Act.put, List.setIfInBounds_toArray, List.set_cons_zero, List.set_cons_succ]
          refine sqs_only (i := 8) rfl (by kernel_rfl) (by kernel_rfl) ?_
          have hr8 := fun (a₀ : Act) (o₀ : Oper) (K₀ : Act → World → Prop) (Q₀ : Exit → Act → World → Prop) => @sq_call Try.prog Q₀ a₀ o₀ w10 K₀ (OwnB w10 (preB 78 [o, R.y])) 23 #[.agg (u8s o).toArray, .agg (u8s R.y).toArray] 79
          refine hr8 _ _ _ _ ?_ ?_ ?_ ?_
          · kernel_rfl
          · kernel_rfl
          · exact HNC2.out w10
          rintro e w11 ⟨A11, cA11, rfl, ho11, f11⟩
          have HO11 := Lib.hid ho11; have F11 := Lib.hid f11
          have hS11 := hS10.fr0 f11
          clear ho11 f11
          refine ⟨_, rfl, hS11, ?_⟩
          clear hr8
          try simp only [Act.put, List.setIfInBounds_toArray, List.set_cons_zero, List.set_cons_succ]
          refine sqs_only (i := 9) rfl (by kernel_rfl) (by kernel_rfl) ?_
          have hr9 := fun (a₀ : Act) (o₀ : Oper) (K₀ : Act → World → Prop) (Q₀ : Exit → Act → World → Prop) => @sq_call Try.prog Q₀ a₀ o₀ w11 K₀ (fun e w' => e = .returned (.agg (u8s (shaB (nodeB o R.y))).toArray) ∧ ∃ v', PIs w' (w1.heap.size :: w2.heap.size :: D) g base v' R.L (((T ++ R.N) ++ [(nodeB o R.x)]) ++ [(nodeB o R.y)]) R.k ∧ PF w10 w' g v10 v') 44 #[.pointer (some ⟨g, 0, none⟩), .slice A11 (preB 78 [o, R.y]).length cA11] 80
          refine hr9 _ _ _ _ ?_ ?_ ?_ ?_
          · kernel_rfl
          · kernel_rfl
          · exact (hash_own w10 w11 _ g base v10 R.L ((T ++ R.N) ++ [(nodeB o R.x)]) R.k HD10.out HP10.out A11 cA11 (nodeB o R.y) HO11.out F11.out (by have := HTB.out; rw [List.length_append]; simp only [List.length_singleton]; omega) (by have := HN2.out; show (preB 78 [o, R.y]).length ≤ 1000000; omega))
          rintro e w12 ⟨rfl, v12, hp12, hf12⟩
          have HP12 := Lib.hid hp12; have HF12 := Lib.hid hf12
          have hS12 := hS10.pf hf12 HRW2.out
          have HX12 := Lib.hid (hf12.blk HX10.out HGX.out (HF10.out.ne HX8.out.drew.lt (HF6.out.ne HX5.out.lt HNX.out))); have HY12 := Lib.hid (hf12.blk HY10.out HGY.out (HF10.out.ne HY8.out.drew.lt (HF6.out.ne HY5.out.lt HNY.out)))
          clear hp12 hf12
          refine ⟨_, rfl, hS12, ?_⟩
          clear hr9
          try simp only [Act.put, List.setIfInBounds_toArray, List.set_cons_zero, List.set_cons_succ]
          refine sqs_only (i := 10) rfl (by kernel_rfl) (by kernel_rfl) ?_
          have hr10 := fun (a₀ : Act) (o₀ : Oper) (K₀ : Act → World → Prop) (Q₀ : Exit → Act → World → Prop) => @sq_store Try.prog Q₀ a₀ o₀ w12 K₀ 25 (.tmp 10) (.tmp 75) w1.heap.size 0 (u8s (shaB (nodeB o R.x))) (zs 32) 25
          refine hr10 _ _ _ _ ?_ ?_ ?_ ?_ ?_ ?_ ?_ ?_ ?_
          · kernel_rfl
          · kernel_rfl
          · kernel_rfl
          · kernel_rfl
          · exact HX12.out
          · exact HZ1.out.1
          · exact u8s_one _
          · exact HZ1.out.2.1
          clear hr10
          rw [HZ1.out.2.2]
          refine ⟨RowsW.set (by assumption) (by simpa using HRX.out) _, ?_⟩
          try simp only [Act.put, List.setIfInBounds_toArray, List.set_cons_zero, List.set_cons_succ]
          refine sqs_only (i := 11) rfl (by kernel_rfl) (by kernel_rfl) ?_
          have hr11 := fun (a₀ : Act) (o₀ : Oper) (K₀ : Act → World → Prop) (Q₀ : Exit → Act → World → Prop) => @sq_store Try.prog Q₀ a₀ o₀ (w12.setRow w1.heap.size (u8s (shaB (nodeB o R.x))).toArray) K₀ 25 (.tmp 11) (.tmp 80) w2.heap.size 0 (u8s (shaB (nodeB o R.y))) (zs 32) 25
          refine hr11 _ _ _ _ ?_ ?_ ?_ ?_ ?_ ?_ ?_ ?_ ?_
          · kernel_rfl
          · kernel_rfl
          · kernel_rfl
          · kernel_rfl
          · exact (Blk.setRow_far HY12.out HXY.out _)
          · exact HZ2.out.1
          · exact u8s_one _
          · exact HZ2.out.2.1
          clear hr11
          rw [HZ2.out.2.2]
          refine ⟨RowsW.set (RowsW.set (by assumption) (by simpa using HRX.out) _) (by simpa using HRY.out) _, ?_⟩
          try simp only [Act.put, List.setIfInBounds_toArray, List.set_cons_zero, List.set_cons_succ]
          refine wpAnyH_done (by kernel_rfl) ?_ _
          go_wp2_with fail
          have hbx := ((Blk.setRow_ HX12.out (u8s (shaB (nodeB o R.x))).toArray).setRow_far (Ne.symm HXY.out) (u8s (shaB (nodeB o R.y))).toArray)
          have hby := Blk.setRow_ (Blk.setRow_far HY12.out HXY.out (u8s (shaB (nodeB o R.x))).toArray) (u8s (shaB (nodeB o R.y))).toArray
          try simp only [Exit.inBlock, Exit.then]
          refine bodyPost_ret (results_cell_row2 (p := 10) (q := 11) (ty := 25) rfl _ _ w1.heap.size w2.heap.size 25 (u8s (shaB (nodeB o R.x))).toArray (u8s (shaB (nodeB o R.y))).toArray _ rfl rfl hbx hby Try.underlying25 rfl (by rw [List.size_toArray]; exact HZ1.out.2.1) (by rw [List.size_toArray]; exact HZ2.out.2.1)) rfl ?_
          rw [HU.out]
          refine ⟨rfl, v12, ?_, ((((((((PF.of0 F3.out g v).trans HF4.out).trans (PF.of0 F5.out g v)).trans HF6.out).trans (PF.of0 F8.out.drew g v6)).trans HF10.out).trans HF12.out).setRow (by omega) _).setRow (by omega) _⟩
          rw [show T ++ (R.N ++ [(nodeB o R.x), (nodeB o R.y)]) = (((T ++ R.N) ++ [(nodeB o R.x)]) ++ [(nodeB o R.y)]) by simp]
          exact (((HP12.out).setRowN (by simp) HGX.out (by have := And.intro (HF12.out.ne HX10.out.lt (HF10.out.ne HX8.out.drew.lt (HF6.out.ne HX5.out.lt HNX.out))) (HF12.out.ne HY10.out.lt (HF10.out.ne HY8.out.drew.lt (HF6.out.ne HY5.out.lt HNY.out))); exact this.1) (by have := HBS.out; have := HLT.out; have := HS.out; omega) _).setRowN (by simp) HGY.out (by have := And.intro (HF12.out.ne HX10.out.lt (HF10.out.ne HX8.out.drew.lt (HF6.out.ne HX5.out.lt HNX.out))) (HF12.out.ne HY10.out.lt (HF10.out.ne HY8.out.drew.lt (HF6.out.ne HY5.out.lt HNY.out))); exact this.2) (by have := HBS.out; have := HLT.out; have := HS.out; omega) _).less HDG.out (by simp; intro y hy; exact .inr (.inr hy))
end Go.Proofs.Ytmgbimdebhhckaa
