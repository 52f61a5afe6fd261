/- The walk of HistoryBinds. -/
import Derived.Test.YtmgbimdebhhckaaHistW
namespace Go.Proofs.Ytmgbimdebhhckaa
open Go.RowKit
set_option linter.unusedVariables false

set_option maxHeartbeats 4000000 in
set_option maxRecDepth 100000 in
theorem binds_walk (w : World) (a b x y : List UInt8) (ha : a.length = 32) (hb : b.length = 32) (hx : x.length = 32) (hy : y.length = 32) (m n i : Int) (PA QA GA : Option Addr) (np cp nq cq ng cg : Nat) (P Q G : List (List UInt8))
    (hnp : P.length = np) (hcp : np ≤ cp) (hP : DgIn w PA P) (hnq : Q.length = nq) (hcq : nq ≤ cq) (hQ : DgIn w QA Q) (hng : G.length = ng) (hcg : ng ≤ cg) (hG : DgIn w GA G) (hmax : np ≤ maxLen ∧ nq ≤ maxLen ∧ ng ≤ maxLen) :
    Calls Try.prog 5 #[.agg (u8s a).toArray, .agg (u8s b).toArray, .agg (u8s x).toArray, .agg (u8s y).toArray, .int .i64 m, .int .i64 n, .int .i64 i, .slice PA np cp, .slice QA nq cq, .slice GA ng cg] w (AliveR w) := by
  unfold maxLen at hmax
  obtain ⟨w1, hw1⟩ : ∃ W, w.alloc (.cells (u8s a).toArray 25) = W := ⟨_, rfl⟩
  obtain ⟨w2, hw2⟩ : ∃ W, w1.alloc (.cells (u8s b).toArray 25) = W := ⟨_, rfl⟩
  obtain ⟨w3, hw3⟩ : ∃ W, w2.alloc (.cells (u8s x).toArray 25) = W := ⟨_, rfl⟩
  obtain ⟨w4, hw4⟩ : ∃ W, w3.alloc (.cells (u8s y).toArray 25) = W := ⟨_, rfl⟩
  have f12 : Fr [] w w1 := hw1 ▸ (Fr.refl [] w).alloc _
  have f23 : Fr [] w1 w2 := hw2 ▸ (Fr.refl [] w1).alloc _
  have f34 : Fr [] w2 w3 := hw3 ▸ (Fr.refl [] w2).alloc _
  have f45 : Fr [] w3 w4 := hw4 ▸ (Fr.refl [] w3).alloc _
  have hba := (((hw1 ▸ Blk.new w _ _ : Blk w1 w.heap.size 25 (u8s a).toArray).fr f23 (by simp)).fr f34 (by simp)).fr f45 (by simp)
  have hbb := ((hw2 ▸ Blk.new w1 _ _ : Blk w2 w1.heap.size 25 (u8s b).toArray).fr f34 (by simp)).fr f45 (by simp)
  have hbx := (hw3 ▸ Blk.new w2 _ _ : Blk w3 w2.heap.size 25 (u8s x).toArray).fr f45 (by simp)
  have hby : Blk w4 w3.heap.size 25 (u8s y).toArray := hw4 ▸ Blk.new w3 _ _
  have f04 := ((f12.trans f23).trans f34).trans f45
  have HCA := Lib.hid (fun w' (h : Fr [] w4 w') => rd_row (hba.fr h (by simp))); have HCB := Lib.hid (fun w' (h : Fr [] w4 w') => rd_row (hbb.fr h (by simp))); have HCX := Lib.hid (fun w' (h : Fr [] w4 w') => rd_row (hbx.fr h (by simp))); have HCY := Lib.hid (fun w' (h : Fr [] w4 w') => rd_row (hby.fr h (by simp)))
  have HAF := Lib.hid (digF a ha); have HBF := Lib.hid (digF b hb); have HXF := Lib.hid (digF x hx); have HYF := Lib.hid (digF y hy)
  have HAL := Lib.hid (alive18_calls w4)
  have F4 := Lib.hid f04
  by_cases hbig : 60 < np ∨ 60 < nq ∨ 60 < ng
  · have hcase : 60 < np ∨ (np ≤ 60 ∧ 60 < nq) ∨ (np ≤ 60 ∧ nq ≤ 60 ∧ 60 < ng) := by omega
    clear hbig hba hbb hbx hby f04 f12 f23 f34 f45 ha hb hx hy hP hQ hG hnp hnq hng hcp hcq hcg
    rcases hcase with h | ⟨h, h2⟩ | ⟨h, h2, h3⟩
    · have hI : (60 : Int) < (np : Int) := by omega
      clear h hmax
      go_enter Try.func5, Try.ntmps5
      go_wp2_with (first
        | go_big_skip
        | (refine box_agg rfl 25 (.tmp 0) rfl (u8s a).toArray rfl ?_; rw [hw1])
        | (refine box_agg rfl 25 (.tmp 1) rfl (u8s b).toArray rfl ?_; rw [hw2])
        | (refine box_agg rfl 25 (.tmp 2) rfl (u8s x).toArray rfl ?_; rw [hw3])
        | (refine box_agg rfl 25 (.tmp 3) rfl (u8s y).toArray rfl ?_; rw [hw4])
        | (go_at_call 6; (with_reducible refine HAL.out.mono ?_); rintro e w5 ⟨rfl, f5⟩)
        | (refine wpList_wanted (v := .agg (u8s a).toArray) (by kernel_rfl) (exec_load_agg (ty := 25) (x := .tmp 10) rfl w.heap.size 0 rfl (u8s a) _ (HCA.out _ (by assumption)) Try.underlying25 rfl HAF.out.2.1) ?_)
        | (refine wpList_wanted (v := .agg (u8s b).toArray) (by kernel_rfl) (exec_load_agg (ty := 25) (x := .tmp 11) rfl w1.heap.size 0 rfl (u8s b) _ (HCB.out _ (by assumption)) Try.underlying25 rfl HBF.out.2.1) ?_)
        | (refine wpList_wanted (v := .agg (u8s x).toArray) (by kernel_rfl) (exec_load_agg (ty := 25) (x := .tmp 12) rfl w2.heap.size 0 rfl (u8s x) _ (HCX.out _ (by assumption)) Try.underlying25 rfl HXF.out.2.1) ?_)
        | (refine wpList_wanted (v := .agg (u8s y).toArray) (by kernel_rfl) (exec_load_agg (ty := 25) (x := .tmp 13) rfl w3.heap.size 0 rfl (u8s y) _ (HCY.out _ (by assumption)) Try.underlying25 rfl HYF.out.2.1) ?_)
        | (go_at_call 14; (with_reducible refine (HGR.out w5 f5).mono ?_); rintro e w6 ⟨rfl, g6⟩; rw [HG.out]; have f6 := f5.trans g6; clear g6)
        | (go_at_call 13; (with_reducible refine (HI1.out w6 f6).mono ?_); rintro e w7 ⟨rfl, g7⟩; rw [HI.out]; have f7 := f6.trans g7; clear g7)
        | (go_at_call 13; (with_reducible refine (HI2.out w7 f7).mono ?_); rintro e w8 ⟨rfl, g8⟩; rw [HJ.out]; have f8 := f7.trans g8; clear g8))
      go_ret
      exact ⟨rfl, F4.out.trans f5⟩
    · have hI : ¬ (60 : Int) < (np : Int) ∧ (60 : Int) < (nq : Int) := by omega
      clear h h2 hmax
      go_enter Try.func5, Try.ntmps5
      go_wp2_with (first
        | go_big_skip
        | (refine box_agg rfl 25 (.tmp 0) rfl (u8s a).toArray rfl ?_; rw [hw1])
        | (refine box_agg rfl 25 (.tmp 1) rfl (u8s b).toArray rfl ?_; rw [hw2])
        | (refine box_agg rfl 25 (.tmp 2) rfl (u8s x).toArray rfl ?_; rw [hw3])
        | (refine box_agg rfl 25 (.tmp 3) rfl (u8s y).toArray rfl ?_; rw [hw4])
        | (go_at_call 6; (with_reducible refine HAL.out.mono ?_); rintro e w5 ⟨rfl, f5⟩)
        | (refine wpList_wanted (v := .agg (u8s a).toArray) (by kernel_rfl) (exec_load_agg (ty := 25) (x := .tmp 10) rfl w.heap.size 0 rfl (u8s a) _ (HCA.out _ (by assumption)) Try.underlying25 rfl HAF.out.2.1) ?_)
        | (refine wpList_wanted (v := .agg (u8s b).toArray) (by kernel_rfl) (exec_load_agg (ty := 25) (x := .tmp 11) rfl w1.heap.size 0 rfl (u8s b) _ (HCB.out _ (by assumption)) Try.underlying25 rfl HBF.out.2.1) ?_)
        | (refine wpList_wanted (v := .agg (u8s x).toArray) (by kernel_rfl) (exec_load_agg (ty := 25) (x := .tmp 12) rfl w2.heap.size 0 rfl (u8s x) _ (HCX.out _ (by assumption)) Try.underlying25 rfl HXF.out.2.1) ?_)
        | (refine wpList_wanted (v := .agg (u8s y).toArray) (by kernel_rfl) (exec_load_agg (ty := 25) (x := .tmp 13) rfl w3.heap.size 0 rfl (u8s y) _ (HCY.out _ (by assumption)) Try.underlying25 rfl HYF.out.2.1) ?_)
        | (go_at_call 14; (with_reducible refine (HGR.out w5 f5).mono ?_); rintro e w6 ⟨rfl, g6⟩; rw [HG.out]; have f6 := f5.trans g6; clear g6)
        | (go_at_call 13; (with_reducible refine (HI1.out w6 f6).mono ?_); rintro e w7 ⟨rfl, g7⟩; rw [HI.out]; have f7 := f6.trans g7; clear g7)
        | (go_at_call 13; (with_reducible refine (HI2.out w7 f7).mono ?_); rintro e w8 ⟨rfl, g8⟩; rw [HJ.out]; have f8 := f7.trans g8; clear g8))
      go_ret
      exact ⟨rfl, F4.out.trans f5⟩
    · have hI : ¬ (60 : Int) < (np : Int) ∧ ¬ (60 : Int) < (nq : Int) ∧ (60 : Int) < (ng : Int) := by omega
      clear h h2 h3 hmax
      go_enter Try.func5, Try.ntmps5
      go_wp2_with (first
        | go_big_skip
        | (refine box_agg rfl 25 (.tmp 0) rfl (u8s a).toArray rfl ?_; rw [hw1])
        | (refine box_agg rfl 25 (.tmp 1) rfl (u8s b).toArray rfl ?_; rw [hw2])
        | (refine box_agg rfl 25 (.tmp 2) rfl (u8s x).toArray rfl ?_; rw [hw3])
        | (refine box_agg rfl 25 (.tmp 3) rfl (u8s y).toArray rfl ?_; rw [hw4])
        | (go_at_call 6; (with_reducible refine HAL.out.mono ?_); rintro e w5 ⟨rfl, f5⟩)
        | (refine wpList_wanted (v := .agg (u8s a).toArray) (by kernel_rfl) (exec_load_agg (ty := 25) (x := .tmp 10) rfl w.heap.size 0 rfl (u8s a) _ (HCA.out _ (by assumption)) Try.underlying25 rfl HAF.out.2.1) ?_)
        | (refine wpList_wanted (v := .agg (u8s b).toArray) (by kernel_rfl) (exec_load_agg (ty := 25) (x := .tmp 11) rfl w1.heap.size 0 rfl (u8s b) _ (HCB.out _ (by assumption)) Try.underlying25 rfl HBF.out.2.1) ?_)
        | (refine wpList_wanted (v := .agg (u8s x).toArray) (by kernel_rfl) (exec_load_agg (ty := 25) (x := .tmp 12) rfl w2.heap.size 0 rfl (u8s x) _ (HCX.out _ (by assumption)) Try.underlying25 rfl HXF.out.2.1) ?_)
        | (refine wpList_wanted (v := .agg (u8s y).toArray) (by kernel_rfl) (exec_load_agg (ty := 25) (x := .tmp 13) rfl w3.heap.size 0 rfl (u8s y) _ (HCY.out _ (by assumption)) Try.underlying25 rfl HYF.out.2.1) ?_)
        | (go_at_call 14; (with_reducible refine (HGR.out w5 f5).mono ?_); rintro e w6 ⟨rfl, g6⟩; rw [HG.out]; have f6 := f5.trans g6; clear g6)
        | (go_at_call 13; (with_reducible refine (HI1.out w6 f6).mono ?_); rintro e w7 ⟨rfl, g7⟩; rw [HI.out]; have f7 := f6.trans g7; clear g7)
        | (go_at_call 13; (with_reducible refine (HI2.out w7 f7).mono ?_); rintro e w8 ⟨rfl, g8⟩; rw [HJ.out]; have f8 := f7.trans g8; clear g8))
      go_ret
      exact ⟨rfl, F4.out.trans f5⟩
  · have hI : (np : Int) ≤ 60 ∧ (nq : Int) ≤ 60 ∧ (ng : Int) ≤ 60 := by omega
    have HGR := Lib.hid (fun w' (h : Fr [] w4 w') => Grows_calls w' a b ha hb m n GA ng cg G hng hcg (hG.fr (f04.trans h)) (by omega))
    have HI1 := Lib.hid (fun w' (h : Fr [] w4 w') => InPath_calls w' a ha m i x hx PA np cp P hnp hcp (hP.fr (f04.trans h)) (by omega))
    have HI2 := Lib.hid (fun w' (h : Fr [] w4 w') => InPath_calls w' b hb n i y hy QA nq cq Q hnq hcq (hQ.fr (f04.trans h)) (by omega))
    have HP1 := Lib.hid (fun w' (h : Fr [] w4 w') => pp_calls w' [] (by simp) m i x hx PA np cp P hnp hcp (hP.fr (f04.trans h)) (by omega))
    have HP2 := Lib.hid (fun w' (h : Fr [] w4 w') (D : List Nat) (hD : ∀ k ∈ D, k < w'.heap.size) => pp_calls w' D hD n i y hy QA nq cq Q hnq hcq (hQ.fr (f04.trans h)) (by omega))
    have HP3 := Lib.hid (fun w' (h : Fr [] w4 w') (D : List Nat) (hD : ∀ k ∈ D, k < w'.heap.size) => gp_calls w' D hD a ha m n GA ng cg G hng hcg (hG.fr (f04.trans h)) (by omega))
    have hclash := binds_clash a b x y m n i P Q G ha hx hy (dg_all hP) (dg_all hQ) (dg_all hG)
    have hl1 := ppN_length m i x P; have hl2 := ppN_length n i y Q; have hl3 := gpN_length a ha m n G (dg_all hG)
    have HLEN := Lib.hid (show (ppN m i x P).length + (ppN n i y Q).length ≤ 100000 by omega)
    have HLEN2 := Lib.hid (show (ppN m i x P ++ ppN n i y Q).length + (gpN a m n G).length ≤ 10000 by rw [List.length_append]; omega)
    have HTX := Lib.hid (show ∀ t ∈ (ppN m i x P ++ ppN n i y Q) ++ gpN a m n G, t.length ≤ 1000 from fun t ht => by
      rw [List.mem_append, List.mem_append] at ht
      rcases ht with (ht | ht) | ht
      · exact ppN_texts m i x P hx (dg_all hP) t ht
      · exact ppN_texts n i y Q hy (dg_all hQ) t ht
      · exact gpN_texts a ha m n G (dg_all hG) t ht)
    have hgd := dig_guard'
    have heq := fun w' : World => eq_dig w' x y hx hy
    clear hbig hba hbb hbx hby f04 f12 f23 f34 f45 ha hb hx hy hP hQ hG hnp hnq hng hcp hcq hcg hl1 hl2 hl3 hmax
    cases g1 : grB a m b n G with
    | false =>
      have HG := Lib.hid g1
      clear g1 hclash
      go_enter Try.func5, Try.ntmps5
      go_wp2_with (first
        | go_big_skip
        | (refine box_agg rfl 25 (.tmp 0) rfl (u8s a).toArray rfl ?_; rw [hw1])
        | (refine box_agg rfl 25 (.tmp 1) rfl (u8s b).toArray rfl ?_; rw [hw2])
        | (refine box_agg rfl 25 (.tmp 2) rfl (u8s x).toArray rfl ?_; rw [hw3])
        | (refine box_agg rfl 25 (.tmp 3) rfl (u8s y).toArray rfl ?_; rw [hw4])
        | (go_at_call 6; (with_reducible refine HAL.out.mono ?_); rintro e w5 ⟨rfl, f5⟩)
        | (refine wpList_wanted (v := .agg (u8s a).toArray) (by kernel_rfl) (exec_load_agg (ty := 25) (x := .tmp 10) rfl w.heap.size 0 rfl (u8s a) _ (HCA.out _ (by assumption)) Try.underlying25 rfl HAF.out.2.1) ?_)
        | (refine wpList_wanted (v := .agg (u8s b).toArray) (by kernel_rfl) (exec_load_agg (ty := 25) (x := .tmp 11) rfl w1.heap.size 0 rfl (u8s b) _ (HCB.out _ (by assumption)) Try.underlying25 rfl HBF.out.2.1) ?_)
        | (refine wpList_wanted (v := .agg (u8s x).toArray) (by kernel_rfl) (exec_load_agg (ty := 25) (x := .tmp 12) rfl w2.heap.size 0 rfl (u8s x) _ (HCX.out _ (by assumption)) Try.underlying25 rfl HXF.out.2.1) ?_)
        | (refine wpList_wanted (v := .agg (u8s y).toArray) (by kernel_rfl) (exec_load_agg (ty := 25) (x := .tmp 13) rfl w3.heap.size 0 rfl (u8s y) _ (HCY.out _ (by assumption)) Try.underlying25 rfl HYF.out.2.1) ?_)
        | (go_at_call 14; (with_reducible refine (HGR.out w5 f5).mono ?_); rintro e w6 ⟨rfl, g6⟩; rw [HG.out]; have f6 := f5.trans g6; clear g6)
        | (go_at_call 13; (with_reducible refine (HI1.out w6 f6).mono ?_); rintro e w7 ⟨rfl, g7⟩; rw [HI.out]; have f7 := f6.trans g7; clear g7)
        | (go_at_call 13; (with_reducible refine (HI2.out w7 f7).mono ?_); rintro e w8 ⟨rfl, g8⟩; rw [HJ.out]; have f8 := f7.trans g8; clear g8))
      go_ret
      exact ⟨rfl, F4.out.trans f6⟩
    | true =>
      have HG := Lib.hid g1
      cases g2 : inB a m i x P with
      | false =>
        have HI := Lib.hid g2
        clear g1 g2 hclash
        go_enter Try.func5, Try.ntmps5
        go_wp2_with (first
          | go_big_skip
          | (refine box_agg rfl 25 (.tmp 0) rfl (u8s a).toArray rfl ?_; rw [hw1])
          | (refine box_agg rfl 25 (.tmp 1) rfl (u8s b).toArray rfl ?_; rw [hw2])
          | (refine box_agg rfl 25 (.tmp 2) rfl (u8s x).toArray rfl ?_; rw [hw3])
          | (refine box_agg rfl 25 (.tmp 3) rfl (u8s y).toArray rfl ?_; rw [hw4])
          | (go_at_call 6; (with_reducible refine HAL.out.mono ?_); rintro e w5 ⟨rfl, f5⟩)
          | (refine wpList_wanted (v := .agg (u8s a).toArray) (by kernel_rfl) (exec_load_agg (ty := 25) (x := .tmp 10) rfl w.heap.size 0 rfl (u8s a) _ (HCA.out _ (by assumption)) Try.underlying25 rfl HAF.out.2.1) ?_)
          | (refine wpList_wanted (v := .agg (u8s b).toArray) (by kernel_rfl) (exec_load_agg (ty := 25) (x := .tmp 11) rfl w1.heap.size 0 rfl (u8s b) _ (HCB.out _ (by assumption)) Try.underlying25 rfl HBF.out.2.1) ?_)
          | (refine wpList_wanted (v := .agg (u8s x).toArray) (by kernel_rfl) (exec_load_agg (ty := 25) (x := .tmp 12) rfl w2.heap.size 0 rfl (u8s x) _ (HCX.out _ (by assumption)) Try.underlying25 rfl HXF.out.2.1) ?_)
          | (refine wpList_wanted (v := .agg (u8s y).toArray) (by kernel_rfl) (exec_load_agg (ty := 25) (x := .tmp 13) rfl w3.heap.size 0 rfl (u8s y) _ (HCY.out _ (by assumption)) Try.underlying25 rfl HYF.out.2.1) ?_)
          | (go_at_call 14; (with_reducible refine (HGR.out w5 f5).mono ?_); rintro e w6 ⟨rfl, g6⟩; rw [HG.out]; have f6 := f5.trans g6; clear g6)
          | (go_at_call 13; (with_reducible refine (HI1.out w6 f6).mono ?_); rintro e w7 ⟨rfl, g7⟩; rw [HI.out]; have f7 := f6.trans g7; clear g7)
          | (go_at_call 13; (with_reducible refine (HI2.out w7 f7).mono ?_); rintro e w8 ⟨rfl, g8⟩; rw [HJ.out]; have f8 := f7.trans g8; clear g8))
        go_ret
        exact ⟨rfl, F4.out.trans f7⟩
      | true =>
        have HI := Lib.hid g2
        cases g3 : inB b n i y Q with
        | false =>
          have HJ := Lib.hid g3
          clear g1 g2 g3 hclash
          go_enter Try.func5, Try.ntmps5
          go_wp2_with (first
            | go_big_skip
            | (refine box_agg rfl 25 (.tmp 0) rfl (u8s a).toArray rfl ?_; rw [hw1])
            | (refine box_agg rfl 25 (.tmp 1) rfl (u8s b).toArray rfl ?_; rw [hw2])
            | (refine box_agg rfl 25 (.tmp 2) rfl (u8s x).toArray rfl ?_; rw [hw3])
            | (refine box_agg rfl 25 (.tmp 3) rfl (u8s y).toArray rfl ?_; rw [hw4])
            | (go_at_call 6; (with_reducible refine HAL.out.mono ?_); rintro e w5 ⟨rfl, f5⟩)
            | (refine wpList_wanted (v := .agg (u8s a).toArray) (by kernel_rfl) (exec_load_agg (ty := 25) (x := .tmp 10) rfl w.heap.size 0 rfl (u8s a) _ (HCA.out _ (by assumption)) Try.underlying25 rfl HAF.out.2.1) ?_)
            | (refine wpList_wanted (v := .agg (u8s b).toArray) (by kernel_rfl) (exec_load_agg (ty := 25) (x := .tmp 11) rfl w1.heap.size 0 rfl (u8s b) _ (HCB.out _ (by assumption)) Try.underlying25 rfl HBF.out.2.1) ?_)
            | (refine wpList_wanted (v := .agg (u8s x).toArray) (by kernel_rfl) (exec_load_agg (ty := 25) (x := .tmp 12) rfl w2.heap.size 0 rfl (u8s x) _ (HCX.out _ (by assumption)) Try.underlying25 rfl HXF.out.2.1) ?_)
            | (refine wpList_wanted (v := .agg (u8s y).toArray) (by kernel_rfl) (exec_load_agg (ty := 25) (x := .tmp 13) rfl w3.heap.size 0 rfl (u8s y) _ (HCY.out _ (by assumption)) Try.underlying25 rfl HYF.out.2.1) ?_)
            | (go_at_call 14; (with_reducible refine (HGR.out w5 f5).mono ?_); rintro e w6 ⟨rfl, g6⟩; rw [HG.out]; have f6 := f5.trans g6; clear g6)
            | (go_at_call 13; (with_reducible refine (HI1.out w6 f6).mono ?_); rintro e w7 ⟨rfl, g7⟩; rw [HI.out]; have f7 := f6.trans g7; clear g7)
            | (go_at_call 13; (with_reducible refine (HI2.out w7 f7).mono ?_); rintro e w8 ⟨rfl, g8⟩; rw [HJ.out]; have f8 := f7.trans g8; clear g8))
          go_ret
          exact ⟨rfl, F4.out.trans f8⟩
        | true =>
          have HJ := Lib.hid g3
          cases hxy : (x == y) with
          | true =>
            rw [hxy] at heq
            clear g1 g2 g3 hclash hxy
            go_enter Try.func5, Try.ntmps5
            go_wp2_with (first
              | go_big_skip
              | (refine box_agg rfl 25 (.tmp 0) rfl (u8s a).toArray rfl ?_; rw [hw1])
              | (refine box_agg rfl 25 (.tmp 1) rfl (u8s b).toArray rfl ?_; rw [hw2])
              | (refine box_agg rfl 25 (.tmp 2) rfl (u8s x).toArray rfl ?_; rw [hw3])
              | (refine box_agg rfl 25 (.tmp 3) rfl (u8s y).toArray rfl ?_; rw [hw4])
              | (go_at_call 6; (with_reducible refine HAL.out.mono ?_); rintro e w5 ⟨rfl, f5⟩)
              | (refine wpList_wanted (v := .agg (u8s a).toArray) (by kernel_rfl) (exec_load_agg (ty := 25) (x := .tmp 10) rfl w.heap.size 0 rfl (u8s a) _ (HCA.out _ (by assumption)) Try.underlying25 rfl HAF.out.2.1) ?_)
              | (refine wpList_wanted (v := .agg (u8s b).toArray) (by kernel_rfl) (exec_load_agg (ty := 25) (x := .tmp 11) rfl w1.heap.size 0 rfl (u8s b) _ (HCB.out _ (by assumption)) Try.underlying25 rfl HBF.out.2.1) ?_)
              | (refine wpList_wanted (v := .agg (u8s x).toArray) (by kernel_rfl) (exec_load_agg (ty := 25) (x := .tmp 12) rfl w2.heap.size 0 rfl (u8s x) _ (HCX.out _ (by assumption)) Try.underlying25 rfl HXF.out.2.1) ?_)
              | (refine wpList_wanted (v := .agg (u8s y).toArray) (by kernel_rfl) (exec_load_agg (ty := 25) (x := .tmp 13) rfl w3.heap.size 0 rfl (u8s y) _ (HCY.out _ (by assumption)) Try.underlying25 rfl HYF.out.2.1) ?_)
              | (go_at_call 14; (with_reducible refine (HGR.out w5 f5).mono ?_); rintro e w6 ⟨rfl, g6⟩; rw [HG.out]; have f6 := f5.trans g6; clear g6)
              | (go_at_call 13; (with_reducible refine (HI1.out w6 f6).mono ?_); rintro e w7 ⟨rfl, g7⟩; rw [HI.out]; have f7 := f6.trans g7; clear g7)
              | (go_at_call 13; (with_reducible refine (HI2.out w7 f7).mono ?_); rintro e w8 ⟨rfl, g8⟩; rw [HJ.out]; have f8 := f7.trans g8; clear g8))
            go_ret
            exact ⟨rfl, F4.out.trans f8⟩
          | false =>
            rw [hxy] at heq
            have HCL := Lib.hid (hclash g1 g2 g3 hxy)
            clear g1 g2 g3 hclash hxy
            go_enter Try.func5, Try.ntmps5
            go_wp2_with (first
              | go_big_skip
              | (refine box_agg rfl 25 (.tmp 0) rfl (u8s a).toArray rfl ?_; rw [hw1])
              | (refine box_agg rfl 25 (.tmp 1) rfl (u8s b).toArray rfl ?_; rw [hw2])
              | (refine box_agg rfl 25 (.tmp 2) rfl (u8s x).toArray rfl ?_; rw [hw3])
              | (refine box_agg rfl 25 (.tmp 3) rfl (u8s y).toArray rfl ?_; rw [hw4])
              | (go_at_call 6; (with_reducible refine HAL.out.mono ?_); rintro e w5 ⟨rfl, f5⟩)
              | (refine wpList_wanted (v := .agg (u8s a).toArray) (by kernel_rfl) (exec_load_agg (ty := 25) (x := .tmp 10) rfl w.heap.size 0 rfl (u8s a) _ (HCA.out _ (by assumption)) Try.underlying25 rfl HAF.out.2.1) ?_)
              | (refine wpList_wanted (v := .agg (u8s b).toArray) (by kernel_rfl) (exec_load_agg (ty := 25) (x := .tmp 11) rfl w1.heap.size 0 rfl (u8s b) _ (HCB.out _ (by assumption)) Try.underlying25 rfl HBF.out.2.1) ?_)
              | (refine wpList_wanted (v := .agg (u8s x).toArray) (by kernel_rfl) (exec_load_agg (ty := 25) (x := .tmp 12) rfl w2.heap.size 0 rfl (u8s x) _ (HCX.out _ (by assumption)) Try.underlying25 rfl HXF.out.2.1) ?_)
              | (refine wpList_wanted (v := .agg (u8s y).toArray) (by kernel_rfl) (exec_load_agg (ty := 25) (x := .tmp 13) rfl w3.heap.size 0 rfl (u8s y) _ (HCY.out _ (by assumption)) Try.underlying25 rfl HYF.out.2.1) ?_)
              | (go_at_call 14; (with_reducible refine (HGR.out w5 f5).mono ?_); rintro e w6 ⟨rfl, g6⟩; rw [HG.out]; have f6 := f5.trans g6; clear g6)
              | (go_at_call 13; (with_reducible refine (HI1.out w6 f6).mono ?_); rintro e w7 ⟨rfl, g7⟩; rw [HI.out]; have f7 := f6.trans g7; clear g7)
              | (go_at_call 13; (with_reducible refine (HI2.out w7 f7).mono ?_); rintro e w8 ⟨rfl, g8⟩; rw [HJ.out]; have f8 := f7.trans g8; clear g8))
            have hS8 : OldW w8 w8.drew := (Fr.refl [] w8).drew
            refine sqo_begin (w0 := w8) (by kernel_rfl) ?_
            refine sqo_take (i := 0) (v := (.int .i64 m)) (d := 67) rfl (by kernel_rfl) (by kernel_rfl) (by kernel_rfl) (by kernel_rfl) (by kernel_rfl) (fun _ _ _ h => h) ?_ (by assumption) ?_
            · intro w9 h9; kernel_rfl
            try simp only [Act.put, List.setIfInBounds_toArray, List.set_cons_zero, List.set_cons_succ]
            refine sqo_take (i := 1) (v := (.int .i64 i)) (d := 68) rfl (by kernel_rfl) (by kernel_rfl) (by kernel_rfl) (by kernel_rfl) (by kernel_rfl) (fun _ _ _ h => h) ?_ (by assumption) ?_
            · intro w9 h9; kernel_rfl
            try simp only [Act.put, List.setIfInBounds_toArray, List.set_cons_zero, List.set_cons_succ]
            refine sqo_take (i := 2) (v := (.agg (u8s x).toArray)) (d := 69) rfl (by kernel_rfl) (by kernel_rfl) (by kernel_rfl) (by kernel_rfl) (by kernel_rfl) (fun _ _ _ h => h) ?_ (by assumption) ?_
            · intro w9 h9; exact exec_load_agg rfl w2.heap.size 0 (by kernel_rfl) (u8s x) _ (HCX.out w9 (f8.trans h9)) Try.underlying25 rfl HXF.out.2.1
            try simp only [Act.put, List.setIfInBounds_toArray, List.set_cons_zero, List.set_cons_succ]
            refine sqo_take (i := 3) (v := (.slice PA np cp)) (d := 70) rfl (by kernel_rfl) (by kernel_rfl) (by kernel_rfl) (by kernel_rfl) (by kernel_rfl) (fun _ _ _ h => h) ?_ (by assumption) ?_
            · intro w9 h9; kernel_rfl
            try simp only [Act.put, List.setIfInBounds_toArray, List.set_cons_zero, List.set_cons_succ]
            refine sqo_take (i := 5) (v := (.int .i64 n)) (d := 72) rfl (by kernel_rfl) (by kernel_rfl) (by kernel_rfl) (by kernel_rfl) (by kernel_rfl) (fun _ _ _ h => h) ?_ (by assumption) ?_
            · intro w9 h9; kernel_rfl
            try simp only [Act.put, List.setIfInBounds_toArray, List.set_cons_zero, List.set_cons_succ]
            refine sqo_take (i := 6) (v := (.int .i64 i)) (d := 73) rfl (by kernel_rfl) (by kernel_rfl) (by kernel_rfl) (by kernel_rfl) (by kernel_rfl) (fun _ _ _ h => h) ?_ (by assumption) ?_
            · intro w9 h9; kernel_rfl
            try simp only [Act.put, List.setIfInBounds_toArray, List.set_cons_zero, List.set_cons_succ]
            refine sqo_take (i := 7) (v := (.agg (u8s y).toArray)) (d := 74) rfl (by kernel_rfl) (by kernel_rfl) (by kernel_rfl) (by kernel_rfl) (by kernel_rfl) (fun _ _ _ h => h) ?_ (by assumption) ?_
            · intro w9 h9; exact exec_load_agg rfl w3.heap.size 0 (by kernel_rfl) (u8s y) _ (HCY.out w9 (f8.trans h9)) Try.underlying25 rfl HYF.out.2.1
            try simp only [Act.put, List.setIfInBounds_toArray, List.set_cons_zero, List.set_cons_succ]
            refine sqo_take (i := 8) (v := (.slice QA nq cq)) (d := 75) rfl (by kernel_rfl) (by kernel_rfl) (by kernel_rfl) (by kernel_rfl) (by kernel_rfl) (fun _ _ _ h => h) ?_ (by assumption) ?_
            · intro w9 h9; kernel_rfl
            try simp only [Act.put, List.setIfInBounds_toArray, List.set_cons_zero, List.set_cons_succ]
            refine sqo_only (i := 4) rfl (by kernel_rfl) (by kernel_rfl) ?_
            have hr4 := fun (a₀ : Act) (o₀ : Oper) (K₀ : Act → World → Prop) (Q₀ : Exit → Act → World → Prop) => @sq_call Try.prog Q₀ a₀ o₀ w8.drew K₀ (OwnT w8.drew [] (ppN m i x P)) 16 #[.int .i64 m, .int .i64 i, .agg (u8s x).toArray, .slice PA np cp] 71
            refine hr4 _ _ _ _ ?_ ?_ ?_ ?_
            · kernel_rfl
            · kernel_rfl
            · exact (HP1.out w8.drew (f8.trans hS8))
            rintro e w9 ⟨v1, rfl, ht1, g9⟩
            have HT1 := Lib.hid ht1
            have hS9 := OldW.step hS8 g9
            clear ht1 g9
            refine ⟨_, rfl, hS9, ?_⟩
            clear hr4
            try simp only [Act.put, List.setIfInBounds_toArray, List.set_cons_zero, List.set_cons_succ]
            refine sqo_only (i := 9) rfl (by kernel_rfl) (by kernel_rfl) ?_
            have hr9 := fun (a₀ : Act) (o₀ : Oper) (K₀ : Act → World → Prop) (Q₀ : Exit → Act → World → Prop) => @sq_call Try.prog Q₀ a₀ o₀ w9 K₀ (OwnT w9 v1.ownBlock.toList (ppN n i y Q)) 16 #[.int .i64 n, .int .i64 i, .agg (u8s y).toArray, .slice QA nq cq] 76
            refine hr9 _ _ _ _ ?_ ?_ ?_ ?_
            · kernel_rfl
            · kernel_rfl
            · exact (HP2.out w9 (f8.trans hS9) v1.ownBlock.toList (fun k hk => (HT1.out.lt k (by simpa using hk)).2))
            rintro e w10 ⟨v2, rfl, ht2, g10⟩
            have HT2 := Lib.hid ht2
            have HT1b := Lib.hid (HT1.out.frD g10)
            have hS10 := OldW.step hS9 g10
            clear ht2 g10
            refine ⟨_, rfl, hS10, ?_⟩
            clear hr9
            try simp only [Act.put, List.setIfInBounds_toArray, List.set_cons_zero, List.set_cons_succ]
            refine sqo_only (i := 10) rfl (by kernel_rfl) (by kernel_rfl) ?_
            have hr10 := fun (a₀ : Act) (o₀ : Oper) (K₀ : Act → World → Prop) (Q₀ : Exit → Act → World → Prop) (hgd : o₀.guard = none) (hd : o₀.dst = some 77) (ho : o₀.op = .call { callee := .builtin .append, args := #[.tmp 71, .tmp 76], argTypes := #[37, 37] }) (hs : a₀.eval (.tmp 71) = v1) (hx : a₀.eval (.tmp 76) = v2) => @sq_appT Q₀ o₀ a₀ w10 K₀ hgd (.tmp 71) (.tmp 76) 77 hd ho w8.drew.heap.size w9.heap.size v1 v2 [] v1.ownBlock.toList (ppN m i x P) (ppN n i y Q) hs HT1b.out hx HT2.out (fun k hk => by simp [hk]) HLEN.out hS10.size
            refine hr10 _ _ _ _ ?_ ?_ ?_ ?_ ?_ ?_
            · kernel_rfl
            · kernel_rfl
            · kernel_rfl
            · kernel_rfl
            · kernel_rfl
            intro v3 w11 ht3 g11
            have HT3 := Lib.hid ht3
            have hS11 : OldW w8 w11 := Fr.trans' hS10 g11 (fun k hk => by simp only [Option.mem_toList] at hk; exact .inr (HT1b.out.lt k hk).1)
            clear ht3 g11 hr10
            refine ⟨hS11, ?_⟩
            try simp only [Act.put, List.setIfInBounds_toArray, List.set_cons_zero, List.set_cons_succ]
            refine sqo_take (i := 11) (v := v3) (d := 21) rfl (by kernel_rfl) (by kernel_rfl) (by kernel_rfl) (by kernel_rfl) (by kernel_rfl) (fun _ _ _ h => h) ?_ (by assumption) ?_
            · intro w9 h9; kernel_rfl
            try simp only [Act.put, List.setIfInBounds_toArray, List.set_cons_zero, List.set_cons_succ]
            refine wpAnyH_done (by kernel_rfl) ?_ _
            have f11 : Fr [] w4 w11 := f8.trans hS11
            go_wp2_with (first
              | (refine wpList_wanted (v := .agg (u8s a).toArray) (by kernel_rfl) (exec_load_agg (ty := 25) (x := .tmp 10) rfl w.heap.size 0 rfl (u8s a) _ (HCA.out _ f11) Try.underlying25 rfl HAF.out.2.1) ?_)
              | (go_at_call 18; (with_reducible refine (HP3.out w11 f11 v3.ownBlock.toList (fun k hk => (HT3.out.lt k (by simpa using hk)).2)).mono ?_); rintro e w12 ⟨v4, rfl, ht4, g12⟩; have HT4 := Lib.hid ht4; have HT3b := Lib.hid (HT3.out.frD g12); have f12 := f11.trans g12; have HS12 := Lib.hid (show w8.drew.heap.size ≤ w12.heap.size from Nat.le_trans hS11.size g12.size); clear ht4 g12)
              | (at_builtin; refine wpList_appT rfl (.tmp 78) (.tmp 83) 84 rfl rfl w8.drew.heap.size w11.heap.size v3 v4 [] v3.ownBlock.toList (ppN m i x P ++ ppN n i y Q) (gpN a m n G) rfl HT3b.out rfl HT4.out (fun k hk => by simp [hk]) (by have := HLEN2.out; omega) HS12.out ?_; intro v5 w13 ht5 g13; obtain ⟨A5, c5, rfl, hc5, hin5⟩ := ht5.toIn; obtain ⟨M, hM⟩ : ∃ M, ((ppN m i x P ++ ppN n i y Q) ++ gpN a m n G).length = M := ⟨_, rfl⟩; rw [hM]; have HCC := Lib.hid (Clash_calls w13 A5 M c5 _ hM hin5 HTX.out (by rw [List.length_append] at hM; have := HLEN2.out; omega)); clear hM hc5; have f13 := f12.trans' (T := v3.ownBlock.toList) g13 (fun k hk => by simp only [Option.mem_toList] at hk; exact .inr (Nat.le_trans (f8.trans hS8).size (HT3b.out.lt k hk).1)); clear ht5 g13 hin5)
              | (go_at_call 17; (with_reducible refine HCC.out.mono ?_); rintro e w14 ⟨rfl, g14⟩; rw [HCL.out]; have f14 := f13.trans g14; clear g14))
            go_ret
            exact ⟨rfl, F4.out.trans f14⟩
end Go.Proofs.Ytmgbimdebhhckaa
