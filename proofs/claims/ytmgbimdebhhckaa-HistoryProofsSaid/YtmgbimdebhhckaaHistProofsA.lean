/- The walk of HistoryProofs: numbers that are none. -/
import Derived.Test.YtmgbimdebhhckaaHistX
namespace Go.Proofs.Ytmgbimdebhhckaa
open Go.RowKit
set_option linter.unusedVariables false

/-- a row of digests of the call's own, told by its form -/
def OwnD1 (w : World) (r : List (List UInt8)) (n : Nat) (e : Ending) (w' : World) : Prop := ∃ A c, e = .returned (.slice A n c) ∧ DgIn w' A r ∧ Fr [] w w'
theorem OwnD.to1 {w : World} {r : List (List UInt8)} {n : Nat} (hn : r.length = n) {e : Ending} {w' : World} (h : OwnD w r e w') : OwnD1 w r n e w' := by
  obtain ⟨h1, v, rfl, ho, hf⟩ := h
  obtain ⟨A, c, rfl, hc, hD, hb⟩ := own_dg h1 ho rfl
  exact ⟨A, c, by rw [← hn], hD, hf⟩
set_option maxHeartbeats 4000000 in
set_option maxRecDepth 100000 in
theorem proofs_neg (w : World) (A : Option Addr) (n c : Nat) (l : List (List UInt8)) (hn : l.length = n) (hc : n ≤ c) (hD : DgIn w A l) (h40 : n ≤ 40) (i : Int) (hi : i < 0) (m : Int) :
    Calls Try.prog 3 #[.slice A n c, .int .i64 i, .int .i64 m] w (AliveR w) := by
  have HAL := Lib.hid (alive18_calls w); have HN := Lib.hid hn; have HCC := Lib.hid hc
  have HRT := Lib.hid (fun w2 (f2 : Fr [] w w2) => root_calls n w2 A n c l (Nat.le_refl _) hn hc (by omega) (hD.fr f2))
  have HD := Lib.hid (fun w2 (f2 : Fr [] w w2) => hD.fr f2)
  have HRF := Lib.hid (digF (rootF l) (rootF_length _))
  have hnI : (0 : Int) ≤ (n : Int) ∧ (n : Int) ≤ 40 := by omega
  have HPC := Lib.hid (fun w2 (f2 : Fr [] w w2) => (Path_calls w2 A n c i l hn hc (by omega) (hD.fr f2)).mono fun e w' h => OwnD2.to3 (r := []) (er := 1) (n := 0) rfl (by rw [show pathR l i = ([], 1) from by unfold pathR; rw [if_pos (by omega)]] at h; exact h))
  have hmc : m < 0 ∨ (0 ≤ m ∧ (n : Int) < m) ∨ m = 0 ∨ (1 ≤ m ∧ m ≤ (n : Int)) := by omega
  rcases hmc with hm | ⟨hm0, hm⟩ | hm | ⟨hm1, hm2⟩
  · have HGC := Lib.hid (fun w2 (f2 : Fr [] w w2) => (Growth_calls w2 A n c m l hn hc (by omega) (hD.fr f2)).mono fun e w' h => OwnD2.to3 (r := []) (er := 1) (n := 0) rfl (by rw [show growR l m = ([], 1) from by unfold growR; rw [if_pos (by omega)]] at h; exact h))
    have hI2 : m < 0 := hm
    clear hn hc hD h40 hm
    go_enter Try.func3, Try.ntmps3
    go_wp2_with (first
      | (go_at_call 6; (with_reducible refine HAL.out.mono ?_); rintro e w1 ⟨rfl, f1⟩; have F1 := Lib.hid f1; clear f1)
      | (go_at_call 7; (refine (HRT.out w1 F1.out).mono ?_); rintro e w2 ⟨rfl, f2⟩; have F2 := Lib.hid (F1.out.trans f2); clear f2)
      | (refine wpList_alloc_agg rfl 25 rfl (zs 32).toArray arr32_zero ?_)
      | (refine wpList_store_agg rfl 25 (.tmp 7) (.tmp 18) rfl w2.heap.size 0 rfl (u8s (rootF l)) rfl (zs 32) 25 (Blk.new w2 _ _) HRF.out.1 (u8s_one _) HRF.out.2.1 ?_; rw [HRF.out.2.2]; obtain ⟨w3, hw3⟩ : ∃ W, (w2.alloc (.cells (zs 32).toArray 25)).setRow w2.heap.size (u8s (rootF l)).toArray = W := ⟨_, rfl⟩; rw [hw3];
          have F3 := Lib.hid (F2.out.trans (show Fr [] w2 w3 from hw3 ▸ ((Fr.refl [] w2).alloc _).setRow (.inr (Nat.le_refl _)) _)); have HR3 := Lib.hid (show Blk w3 w2.heap.size 25 (u8s (rootF l)).toArray from hw3 ▸ (Blk.new w2 _ _).setRow_ _); clear hw3)
      | (go_at_call 8; (refine (HPC.out w3 F3.out).mono ?_); rintro e w4 ⟨AP, cP, rfl, hcP, hDP, _, f4⟩; have HDP := Lib.hid hDP; have HcP := Lib.hid hcP; have F4 := Lib.hid (F3.out.trans f4); have HR4 := Lib.hid (HR3.out.fr f4 (by simp)); clear f4 hDP hcP)
      | (go_at_call 9; (refine (HGC.out w4 F4.out).mono ?_); rintro e w5 ⟨AG, cG, rfl, hcG, hDG, _, f5⟩; have HDG := Lib.hid hDG; have HcG := Lib.hid hcG; have F5 := Lib.hid (F4.out.trans f5); have HR5 := Lib.hid (HR4.out.fr f5 (by simp)); have HDP5 := Lib.hid (HDP.out.fr f5); clear f5 hDG hcG))
    have HCR := Lib.hid (fun w9 (h9 : OldW w5 w9) => rd_row (HR5.out.fr h9 (by simp)))
    have hS5 : OldW w5 w5.drew := (Fr.refl [] w5).drew
    refine sqo_begin (w0 := w5) (by kernel_rfl) ?_
    refine sqo_take (i := 0) (v := (.agg (u8s (rootF l)).toArray)) (d := 31) rfl (by kernel_rfl) (by kernel_rfl) (by kernel_rfl) (by kernel_rfl) (by kernel_rfl) (fun _ _ _ h => h) ?_ (by assumption) ?_
    · intro w9 h9; exact exec_load_agg rfl w2.heap.size 0 (by kernel_rfl) (u8s (rootF l)) _ (HCR.out w9 h9) Try.underlying25 rfl HRF.out.2.1
    try simp only [Act.put, List.setIfInBounds_toArray, List.set_cons_zero, List.set_cons_succ]
    refine sqo_take (i := 1) (v := (.slice A n c)) (d := 32) rfl (by kernel_rfl) (by kernel_rfl) (by kernel_rfl) (by kernel_rfl) (by kernel_rfl) (fun _ _ _ h => h) ?_ (by assumption) ?_
    · intro w9 h9; kernel_rfl
    try simp only [Act.put, List.setIfInBounds_toArray, List.set_cons_zero, List.set_cons_succ]
    refine sqo_only (i := 2) rfl (by kernel_rfl) (by kernel_rfl) ?_
    have hr2 := fun (a₀ : Act) (o₀ : Oper) (K₀ : Act → World → Prop) (Q₀ : Exit → Act → World → Prop) => @sq_call Try.prog Q₀ a₀ o₀ w5.drew K₀ (Agg (.agg (u8s (rootF l)).toArray) w5.drew) 10 #[.slice A n c] 33
    refine hr2 _ _ _ _ ?_ ?_ ?_ ?_
    · kernel_rfl
    · kernel_rfl
    · exact (rroot_calls n w5.drew A n c l (Nat.le_refl _) HN.out HCC.out (by omega) (HD.out w5.drew (F5.out.trans hS5)))
    rintro e w6 ⟨rfl, f9⟩
    have hS6 := OldW.step hS5 f9
    clear f9
    refine ⟨_, rfl, hS6, ?_⟩
    clear hr2
    try simp only [Act.put, List.setIfInBounds_toArray, List.set_cons_zero, List.set_cons_succ]
    refine sqo_take (i := 3) (v := (.bool false)) (d := 34) rfl (by kernel_rfl) (by kernel_rfl) (by kernel_rfl) (by kernel_rfl) (by kernel_rfl) (fun _ _ _ h => h) ?_ (by assumption) ?_
    · intro w9 h9; exact ex_neq_digB w9 rfl (rootF l) (rootF l) (by kernel_rfl) (by kernel_rfl) (rootF_length _) (rootF_length _) (by simp)
    try simp only [Act.put, List.setIfInBounds_toArray, List.set_cons_zero, List.set_cons_succ]
    refine wpAnyH_done (by kernel_rfl) ?_ _
    go_wp2_with fail
    go_ret
    exact ⟨rfl, F5.out.trans hS6⟩
  · have HGC := Lib.hid (fun w2 (f2 : Fr [] w w2) => (Growth_calls w2 A n c m l hn hc (by omega) (hD.fr f2)).mono fun e w' h => OwnD2.to3 (r := []) (er := 1) (n := 0) rfl (by rw [show growR l m = ([], 1) from by unfold growR; rw [if_pos (by omega)]] at h; exact h))
    have hI2 : 0 ≤ m ∧ (n : Int) < m := ⟨hm0, hm⟩
    clear hn hc hD h40 hm0 hm
    go_enter Try.func3, Try.ntmps3
    go_wp2_with (first
      | (go_at_call 6; (with_reducible refine HAL.out.mono ?_); rintro e w1 ⟨rfl, f1⟩; have F1 := Lib.hid f1; clear f1)
      | (go_at_call 7; (refine (HRT.out w1 F1.out).mono ?_); rintro e w2 ⟨rfl, f2⟩; have F2 := Lib.hid (F1.out.trans f2); clear f2)
      | (refine wpList_alloc_agg rfl 25 rfl (zs 32).toArray arr32_zero ?_)
      | (refine wpList_store_agg rfl 25 (.tmp 7) (.tmp 18) rfl w2.heap.size 0 rfl (u8s (rootF l)) rfl (zs 32) 25 (Blk.new w2 _ _) HRF.out.1 (u8s_one _) HRF.out.2.1 ?_; rw [HRF.out.2.2]; obtain ⟨w3, hw3⟩ : ∃ W, (w2.alloc (.cells (zs 32).toArray 25)).setRow w2.heap.size (u8s (rootF l)).toArray = W := ⟨_, rfl⟩; rw [hw3];
          have F3 := Lib.hid (F2.out.trans (show Fr [] w2 w3 from hw3 ▸ ((Fr.refl [] w2).alloc _).setRow (.inr (Nat.le_refl _)) _)); have HR3 := Lib.hid (show Blk w3 w2.heap.size 25 (u8s (rootF l)).toArray from hw3 ▸ (Blk.new w2 _ _).setRow_ _); clear hw3)
      | (go_at_call 8; (refine (HPC.out w3 F3.out).mono ?_); rintro e w4 ⟨AP, cP, rfl, hcP, hDP, _, f4⟩; have HDP := Lib.hid hDP; have HcP := Lib.hid hcP; have F4 := Lib.hid (F3.out.trans f4); have HR4 := Lib.hid (HR3.out.fr f4 (by simp)); clear f4 hDP hcP)
      | (go_at_call 9; (refine (HGC.out w4 F4.out).mono ?_); rintro e w5 ⟨AG, cG, rfl, hcG, hDG, _, f5⟩; have HDG := Lib.hid hDG; have HcG := Lib.hid hcG; have F5 := Lib.hid (F4.out.trans f5); have HR5 := Lib.hid (HR4.out.fr f5 (by simp)); have HDP5 := Lib.hid (HDP.out.fr f5); clear f5 hDG hcG))
    have HCR := Lib.hid (fun w9 (h9 : OldW w5 w9) => rd_row (HR5.out.fr h9 (by simp)))
    have hS5 : OldW w5 w5.drew := (Fr.refl [] w5).drew
    refine sqo_begin (w0 := w5) (by kernel_rfl) ?_
    refine sqo_take (i := 0) (v := (.agg (u8s (rootF l)).toArray)) (d := 31) rfl (by kernel_rfl) (by kernel_rfl) (by kernel_rfl) (by kernel_rfl) (by kernel_rfl) (fun _ _ _ h => h) ?_ (by assumption) ?_
    · intro w9 h9; exact exec_load_agg rfl w2.heap.size 0 (by kernel_rfl) (u8s (rootF l)) _ (HCR.out w9 h9) Try.underlying25 rfl HRF.out.2.1
    try simp only [Act.put, List.setIfInBounds_toArray, List.set_cons_zero, List.set_cons_succ]
    refine sqo_take (i := 1) (v := (.slice A n c)) (d := 32) rfl (by kernel_rfl) (by kernel_rfl) (by kernel_rfl) (by kernel_rfl) (by kernel_rfl) (fun _ _ _ h => h) ?_ (by assumption) ?_
    · intro w9 h9; kernel_rfl
    try simp only [Act.put, List.setIfInBounds_toArray, List.set_cons_zero, List.set_cons_succ]
    refine sqo_only (i := 2) rfl (by kernel_rfl) (by kernel_rfl) ?_
    have hr2 := fun (a₀ : Act) (o₀ : Oper) (K₀ : Act → World → Prop) (Q₀ : Exit → Act → World → Prop) => @sq_call Try.prog Q₀ a₀ o₀ w5.drew K₀ (Agg (.agg (u8s (rootF l)).toArray) w5.drew) 10 #[.slice A n c] 33
    refine hr2 _ _ _ _ ?_ ?_ ?_ ?_
    · kernel_rfl
    · kernel_rfl
    · exact (rroot_calls n w5.drew A n c l (Nat.le_refl _) HN.out HCC.out (by omega) (HD.out w5.drew (F5.out.trans hS5)))
    rintro e w6 ⟨rfl, f9⟩
    have hS6 := OldW.step hS5 f9
    clear f9
    refine ⟨_, rfl, hS6, ?_⟩
    clear hr2
    try simp only [Act.put, List.setIfInBounds_toArray, List.set_cons_zero, List.set_cons_succ]
    refine sqo_take (i := 3) (v := (.bool false)) (d := 34) rfl (by kernel_rfl) (by kernel_rfl) (by kernel_rfl) (by kernel_rfl) (by kernel_rfl) (fun _ _ _ h => h) ?_ (by assumption) ?_
    · intro w9 h9; exact ex_neq_digB w9 rfl (rootF l) (rootF l) (by kernel_rfl) (by kernel_rfl) (rootF_length _) (rootF_length _) (by simp)
    try simp only [Act.put, List.setIfInBounds_toArray, List.set_cons_zero, List.set_cons_succ]
    refine wpAnyH_done (by kernel_rfl) ?_ _
    go_wp2_with fail
    go_ret
    exact ⟨rfl, F5.out.trans hS6⟩
  · subst hm
    have HGC := Lib.hid (fun w2 (f2 : Fr [] w w2) => (Growth_calls w2 A n c 0 l hn hc (by omega) (hD.fr f2)).mono fun e w' h => OwnD2.to3 (r := []) (er := 0) (n := 0) rfl (by rw [show growR l 0 = ([], 0) from by unfold growR; rw [if_neg (by omega), if_pos rfl]] at h; exact h))
    clear hn hc hD h40
    go_enter Try.func3, Try.ntmps3
    go_wp2_with (first
      | (go_at_call 6; (with_reducible refine HAL.out.mono ?_); rintro e w1 ⟨rfl, f1⟩; have F1 := Lib.hid f1; clear f1)
      | (go_at_call 7; (refine (HRT.out w1 F1.out).mono ?_); rintro e w2 ⟨rfl, f2⟩; have F2 := Lib.hid (F1.out.trans f2); clear f2)
      | (refine wpList_alloc_agg rfl 25 rfl (zs 32).toArray arr32_zero ?_)
      | (refine wpList_store_agg rfl 25 (.tmp 7) (.tmp 18) rfl w2.heap.size 0 rfl (u8s (rootF l)) rfl (zs 32) 25 (Blk.new w2 _ _) HRF.out.1 (u8s_one _) HRF.out.2.1 ?_; rw [HRF.out.2.2]; obtain ⟨w3, hw3⟩ : ∃ W, (w2.alloc (.cells (zs 32).toArray 25)).setRow w2.heap.size (u8s (rootF l)).toArray = W := ⟨_, rfl⟩; rw [hw3];
          have F3 := Lib.hid (F2.out.trans (show Fr [] w2 w3 from hw3 ▸ ((Fr.refl [] w2).alloc _).setRow (.inr (Nat.le_refl _)) _)); have HR3 := Lib.hid (show Blk w3 w2.heap.size 25 (u8s (rootF l)).toArray from hw3 ▸ (Blk.new w2 _ _).setRow_ _); clear hw3)
      | (go_at_call 8; (refine (HPC.out w3 F3.out).mono ?_); rintro e w4 ⟨AP, cP, rfl, hcP, hDP, _, f4⟩; have HDP := Lib.hid hDP; have HcP := Lib.hid hcP; have F4 := Lib.hid (F3.out.trans f4); have HR4 := Lib.hid (HR3.out.fr f4 (by simp)); clear f4 hDP hcP)
      | (go_at_call 9; (refine (HGC.out w4 F4.out).mono ?_); rintro e w5 ⟨AG, cG, rfl, hcG, hDG, _, f5⟩; have HDG := Lib.hid hDG; have HcG := Lib.hid hcG; have F5 := Lib.hid (F4.out.trans f5); have HR5 := Lib.hid (HR4.out.fr f5 (by simp)); have HDP5 := Lib.hid (HDP.out.fr f5); clear f5 hDG hcG))
    have HCR := Lib.hid (fun w9 (h9 : OldW w5 w9) => rd_row (HR5.out.fr h9 (by simp)))
    have hS5 : OldW w5 w5.drew := (Fr.refl [] w5).drew
    refine sqo_begin (w0 := w5) (by kernel_rfl) ?_
    refine sqo_take (i := 0) (v := (.agg (u8s (rootF l)).toArray)) (d := 31) rfl (by kernel_rfl) (by kernel_rfl) (by kernel_rfl) (by kernel_rfl) (by kernel_rfl) (fun _ _ _ h => h) ?_ (by assumption) ?_
    · intro w9 h9; exact exec_load_agg rfl w2.heap.size 0 (by kernel_rfl) (u8s (rootF l)) _ (HCR.out w9 h9) Try.underlying25 rfl HRF.out.2.1
    try simp only [Act.put, List.setIfInBounds_toArray, List.set_cons_zero, List.set_cons_succ]
    refine sqo_take (i := 1) (v := (.slice A n c)) (d := 32) rfl (by kernel_rfl) (by kernel_rfl) (by kernel_rfl) (by kernel_rfl) (by kernel_rfl) (fun _ _ _ h => h) ?_ (by assumption) ?_
    · intro w9 h9; kernel_rfl
    try simp only [Act.put, List.setIfInBounds_toArray, List.set_cons_zero, List.set_cons_succ]
    refine sqo_only (i := 2) rfl (by kernel_rfl) (by kernel_rfl) ?_
    have hr2 := fun (a₀ : Act) (o₀ : Oper) (K₀ : Act → World → Prop) (Q₀ : Exit → Act → World → Prop) => @sq_call Try.prog Q₀ a₀ o₀ w5.drew K₀ (Agg (.agg (u8s (rootF l)).toArray) w5.drew) 10 #[.slice A n c] 33
    refine hr2 _ _ _ _ ?_ ?_ ?_ ?_
    · kernel_rfl
    · kernel_rfl
    · exact (rroot_calls n w5.drew A n c l (Nat.le_refl _) HN.out HCC.out (by omega) (HD.out w5.drew (F5.out.trans hS5)))
    rintro e w6 ⟨rfl, f9⟩
    have hS6 := OldW.step hS5 f9
    clear f9
    refine ⟨_, rfl, hS6, ?_⟩
    clear hr2
    try simp only [Act.put, List.setIfInBounds_toArray, List.set_cons_zero, List.set_cons_succ]
    refine sqo_take (i := 3) (v := (.bool false)) (d := 34) rfl (by kernel_rfl) (by kernel_rfl) (by kernel_rfl) (by kernel_rfl) (by kernel_rfl) (fun _ _ _ h => h) ?_ (by assumption) ?_
    · intro w9 h9; exact ex_neq_digB w9 rfl (rootF l) (rootF l) (by kernel_rfl) (by kernel_rfl) (rootF_length _) (rootF_length _) (by simp)
    try simp only [Act.put, List.setIfInBounds_toArray, List.set_cons_zero, List.set_cons_succ]
    refine wpAnyH_done (by kernel_rfl) ?_ _
    go_wp2_with fail
    have HGW := Lib.hid (fun w8 (h8 : OldW w5 w8) => (show Calls Try.prog 14 #[.agg (u8s (rootF [])).toArray, .int .i64 0, .agg (u8s (rootF l)).toArray, .int .i64 (n : Int), .slice AG 0 cG] w8 (Agg (.bool true) w8) from by
        have := Grows_calls w8 (rootF []) (rootF l) (rootF_length _) (rootF_length _) 0 (n : Int) AG 0 cG [] rfl HcG.out (HDG.out.fr h8) (by omega)
        rwa [grB_zero _ _ (by omega)] at this))
    have hT0 : OldW w6 w6.drew := (Fr.refl [] w6).drew
    refine sqo_begin (w0 := w6) (by kernel_rfl) ?_
    refine sqo_take (i := 0) (v := (.slice AG 0 cG)) (d := 95) rfl (by kernel_rfl) (by kernel_rfl) (by kernel_rfl) (by kernel_rfl) (by kernel_rfl) (fun _ _ _ h => h) ?_ (by assumption) ?_
    · intro w9 h9; kernel_rfl
    try simp only [Act.put, List.setIfInBounds_toArray, List.set_cons_zero, List.set_cons_succ]
    refine sqo_take (i := 1) (v := (.int .i64 0)) (d := 96) rfl (by kernel_rfl) (by kernel_rfl) (by kernel_rfl) (by kernel_rfl) (by kernel_rfl) (fun _ _ _ h => h) ?_ (by assumption) ?_
    · intro w9 h9; kernel_rfl
    try simp only [Act.put, List.setIfInBounds_toArray, List.set_cons_zero, List.set_cons_succ]
    refine sqo_take (i := 2) (v := (.bool true)) (d := 97) rfl (by kernel_rfl) (by kernel_rfl) (by kernel_rfl) (by kernel_rfl) (by kernel_rfl) (fun _ _ _ h => h) ?_ (by assumption) ?_
    · intro w9 h9; kernel_rfl
    try simp only [Act.put, List.setIfInBounds_toArray, List.set_cons_zero, List.set_cons_succ]
    refine sqo_take (i := 3) (v := (.bool true)) (d := 98) rfl (by kernel_rfl) (by kernel_rfl) (by kernel_rfl) (by kernel_rfl) (by kernel_rfl) (fun _ _ _ h => h) ?_ (by assumption) ?_
    · intro w9 h9; kernel_rfl
    try simp only [Act.put, List.setIfInBounds_toArray, List.set_cons_zero, List.set_cons_succ]
    refine sqo_take (i := 4) (v := (.int .i64 0)) (d := 99) rfl (by kernel_rfl) (by kernel_rfl) (by kernel_rfl) (by kernel_rfl) (by kernel_rfl) (fun _ _ _ h => h) ?_ (by assumption) ?_
    · intro w9 h9; kernel_rfl
    try simp only [Act.put, List.setIfInBounds_toArray, List.set_cons_zero, List.set_cons_succ]
    refine sqo_take (i := 5) (v := (.bool true)) (d := 100) rfl (by kernel_rfl) (by kernel_rfl) (by kernel_rfl) (by kernel_rfl) (by kernel_rfl) (fun _ _ _ h => h) ?_ (by assumption) ?_
    · intro w9 h9; kernel_rfl
    try simp only [Act.put, List.setIfInBounds_toArray, List.set_cons_zero, List.set_cons_succ]
    refine sqo_take (i := 6) (v := (.bool true)) (d := 101) rfl (by kernel_rfl) (by kernel_rfl) (by kernel_rfl) (by kernel_rfl) (by kernel_rfl) (fun _ _ _ h => h) ?_ (by assumption) ?_
    · intro w9 h9; kernel_rfl
    try simp only [Act.put, List.setIfInBounds_toArray, List.set_cons_zero, List.set_cons_succ]
    refine sqo_take (i := 7) (v := (.bool true)) (d := 102) rfl (by kernel_rfl) (by kernel_rfl) (by kernel_rfl) (by kernel_rfl) (by kernel_rfl) (fun _ _ _ h => h) ?_ (by assumption) ?_
    · intro w9 h9; kernel_rfl
    try simp only [Act.put, List.setIfInBounds_toArray, List.set_cons_zero, List.set_cons_succ]
    refine sqo_take (i := 9) (v := (.agg (u8s (rootF l)).toArray)) (d := 104) rfl (by kernel_rfl) (by kernel_rfl) (by kernel_rfl) (by kernel_rfl) (by kernel_rfl) (fun _ _ _ h => h) ?_ (by assumption) ?_
    · intro w9 h9; exact exec_load_agg rfl w2.heap.size 0 (by kernel_rfl) (u8s (rootF l)) _ (HCR.out w9 (OldW.step hS6 h9)) Try.underlying25 rfl HRF.out.2.1
    try simp only [Act.put, List.setIfInBounds_toArray, List.set_cons_zero, List.set_cons_succ]
    refine sqo_take (i := 10) (v := (.slice A n c)) (d := 105) rfl (by kernel_rfl) (by kernel_rfl) (by kernel_rfl) (by kernel_rfl) (by kernel_rfl) (fun _ _ _ h => h) ?_ (by assumption) ?_
    · intro w9 h9; kernel_rfl
    try simp only [Act.put, List.setIfInBounds_toArray, List.set_cons_zero, List.set_cons_succ]
    refine sqo_take (i := 11) (v := (.int .i64 (n : Int))) (d := 106) rfl (by kernel_rfl) (by kernel_rfl) (by kernel_rfl) (by kernel_rfl) (by kernel_rfl) (fun _ _ _ h => h) ?_ (by assumption) ?_
    · intro w9 h9; kernel_rfl
    try simp only [Act.put, List.setIfInBounds_toArray, List.set_cons_zero, List.set_cons_succ]
    refine sqo_take (i := 12) (v := (.slice AG 0 cG)) (d := 107) rfl (by kernel_rfl) (by kernel_rfl) (by kernel_rfl) (by kernel_rfl) (by kernel_rfl) (fun _ _ _ h => h) ?_ (by assumption) ?_
    · intro w9 h9; kernel_rfl
    try simp only [Act.put, List.setIfInBounds_toArray, List.set_cons_zero, List.set_cons_succ]
    refine sqo_only (i := 8) rfl (by kernel_rfl) (by kernel_rfl) ?_
    have hr8 := fun (a₀ : Act) (o₀ : Oper) (K₀ : Act → World → Prop) (Q₀ : Exit → Act → World → Prop) => @sq_call Try.prog Q₀ a₀ o₀ w6.drew K₀ (Agg (.agg (u8s (rootF [])).toArray) w6.drew) 7 #[.slice none 0 0] 103
    refine hr8 _ _ _ _ ?_ ?_ ?_ ?_
    · kernel_rfl
    · kernel_rfl
    · exact (root_calls 0 w6.drew none 0 0 [] (by omega) rfl (by omega) (by omega) (fun i d hd => by simp at hd))
    rintro e w11 ⟨rfl, f9⟩
    have hT1 := OldW.step hT0 f9
    clear f9
    refine ⟨_, rfl, hT1, ?_⟩
    clear hr8
    try simp only [Act.put, List.setIfInBounds_toArray, List.set_cons_zero, List.set_cons_succ]
    refine sqo_only (i := 13) rfl (by kernel_rfl) (by kernel_rfl) ?_
    have hr13 := fun (a₀ : Act) (o₀ : Oper) (K₀ : Act → World → Prop) (Q₀ : Exit → Act → World → Prop) => @sq_call Try.prog Q₀ a₀ o₀ w11 K₀ (Agg (.bool true) w11) 14 #[.agg (u8s (rootF [])).toArray, .int .i64 0, .agg (u8s (rootF l)).toArray, .int .i64 (n : Int), .slice AG 0 cG] 108
    refine hr13 _ _ _ _ ?_ ?_ ?_ ?_
    · kernel_rfl
    · kernel_rfl
    · exact (HGW.out w11 (OldW.step hS6 hT1))
    rintro e w12 ⟨rfl, f9⟩
    have hT2 := OldW.step hT1 f9
    clear f9
    refine ⟨_, rfl, hT2, ?_⟩
    clear hr13
    try simp only [Act.put, List.setIfInBounds_toArray, List.set_cons_zero, List.set_cons_succ]
    refine sqo_take (i := 14) (v := (.bool true)) (d := 109) rfl (by kernel_rfl) (by kernel_rfl) (by kernel_rfl) (by kernel_rfl) (by kernel_rfl) (fun _ _ _ h => h) ?_ (by assumption) ?_
    · intro w9 h9; kernel_rfl
    try simp only [Act.put, List.setIfInBounds_toArray, List.set_cons_zero, List.set_cons_succ]
    refine sqo_take (i := 15) (v := (.bool true)) (d := 6) rfl (by kernel_rfl) (by kernel_rfl) (by kernel_rfl) (by kernel_rfl) (by kernel_rfl) (fun _ _ _ h => h) ?_ (by assumption) ?_
    · intro w9 h9; kernel_rfl
    try simp only [Act.put, List.setIfInBounds_toArray, List.set_cons_zero, List.set_cons_succ]
    refine wpAnyH_done (by kernel_rfl) ?_ _
    go_wp2_with fail
    go_ret
    exact ⟨rfl, F5.out.trans (OldW.step hS6 hT2)⟩
  · obtain ⟨m, rfl⟩ := Int.eq_ofNat_of_zero_le (show 0 ≤ m by omega)
    have HGC := Lib.hid (fun w2 (f2 : Fr [] w w2) => (Growth_calls w2 A n c (m : Int) l hn hc (by omega) (hD.fr f2)).mono fun e w' h => OwnD2.to3 (r := restF l m true) (er := 0) (n := (restF l m true).length) rfl (by rw [show growR l (m : Int) = (restF l m true, 0) from by unfold growR; rw [if_neg (by omega), if_neg (by omega)]; rfl] at h; exact h))
    have hG7 := restF_log l m true 6 (by omega) (by omega)
    have HRG0 := Lib.hid (fun w8 (h8 : Fr [] w w8) => (rrest_calls n w8 A n c m true l (Nat.le_refl _) hn hc (by omega) (by omega) (by omega) (hD.fr h8)).mono fun e w' h => OwnD.to1 (n := (restF l m true).length) rfl h)
    have HGRB := Lib.hid (grB_complete l n m hn (by omega) (by omega) (by omega))
    have HRM0 := Lib.hid (fun w8 (h8 : Fr [] w w8) => root_calls m w8 A m c (l.take m) (Nat.le_refl _) (by rw [List.length_take]; omega) (by omega) (by omega) ((hD.fr h8).take m))
    obtain ⟨G, hG⟩ : ∃ G, restF l m true = G := ⟨_, rfl⟩
    rw [hG] at HGC hG7 HRG0 HGRB
    obtain ⟨nG, hnG⟩ : ∃ k, G.length = k := ⟨_, rfl⟩
    rw [hnG] at HGC hG7 HRG0
    have HNG := Lib.hid hnG; have HG7 := Lib.hid hG7
    have hI2 : (1 : Int) ≤ (m : Int) ∧ (m : Int) ≤ (n : Int) ∧ (n : Int) ≤ (c : Int) := by omega
    have hmz : ((m : Int) == 0) = false := by rw [beq_eq_false_iff_ne]; omega
    clear hG hnG hG7
    clear hn hc hD h40 hm1 hm2
    go_enter Try.func3, Try.ntmps3
    go_wp2_with (first
      | (go_at_call 6; (with_reducible refine HAL.out.mono ?_); rintro e w1 ⟨rfl, f1⟩; have F1 := Lib.hid f1; clear f1)
      | (go_at_call 7; (refine (HRT.out w1 F1.out).mono ?_); rintro e w2 ⟨rfl, f2⟩; have F2 := Lib.hid (F1.out.trans f2); clear f2)
      | (refine wpList_alloc_agg rfl 25 rfl (zs 32).toArray arr32_zero ?_)
      | (refine wpList_store_agg rfl 25 (.tmp 7) (.tmp 18) rfl w2.heap.size 0 rfl (u8s (rootF l)) rfl (zs 32) 25 (Blk.new w2 _ _) HRF.out.1 (u8s_one _) HRF.out.2.1 ?_; rw [HRF.out.2.2]; obtain ⟨w3, hw3⟩ : ∃ W, (w2.alloc (.cells (zs 32).toArray 25)).setRow w2.heap.size (u8s (rootF l)).toArray = W := ⟨_, rfl⟩; rw [hw3];
          have F3 := Lib.hid (F2.out.trans (show Fr [] w2 w3 from hw3 ▸ ((Fr.refl [] w2).alloc _).setRow (.inr (Nat.le_refl _)) _)); have HR3 := Lib.hid (show Blk w3 w2.heap.size 25 (u8s (rootF l)).toArray from hw3 ▸ (Blk.new w2 _ _).setRow_ _); clear hw3)
      | (go_at_call 8; (refine (HPC.out w3 F3.out).mono ?_); rintro e w4 ⟨AP, cP, rfl, hcP, hDP, _, f4⟩; have HDP := Lib.hid hDP; have HcP := Lib.hid hcP; have F4 := Lib.hid (F3.out.trans f4); have HR4 := Lib.hid (HR3.out.fr f4 (by simp)); clear f4 hDP hcP)
      | (go_at_call 9; (refine (HGC.out w4 F4.out).mono ?_); rintro e w5 ⟨AG, cG, rfl, hcG, hDG, _, f5⟩; have HDG := Lib.hid hDG; have HcG := Lib.hid hcG; have F5 := Lib.hid (F4.out.trans f5); have HR5 := Lib.hid (HR4.out.fr f5 (by simp)); have HDP5 := Lib.hid (HDP.out.fr f5); clear f5 hDG hcG))
    have HCR := Lib.hid (fun w9 (h9 : OldW w5 w9) => rd_row (HR5.out.fr h9 (by simp)))
    have hS5 : OldW w5 w5.drew := (Fr.refl [] w5).drew
    refine sqo_begin (w0 := w5) (by kernel_rfl) ?_
    refine sqo_take (i := 0) (v := (.agg (u8s (rootF l)).toArray)) (d := 31) rfl (by kernel_rfl) (by kernel_rfl) (by kernel_rfl) (by kernel_rfl) (by kernel_rfl) (fun _ _ _ h => h) ?_ (by assumption) ?_
    · intro w9 h9; exact exec_load_agg rfl w2.heap.size 0 (by kernel_rfl) (u8s (rootF l)) _ (HCR.out w9 h9) Try.underlying25 rfl HRF.out.2.1
    try simp only [Act.put, List.setIfInBounds_toArray, List.set_cons_zero, List.set_cons_succ]
    refine sqo_take (i := 1) (v := (.slice A n c)) (d := 32) rfl (by kernel_rfl) (by kernel_rfl) (by kernel_rfl) (by kernel_rfl) (by kernel_rfl) (fun _ _ _ h => h) ?_ (by assumption) ?_
    · intro w9 h9; kernel_rfl
    try simp only [Act.put, List.setIfInBounds_toArray, List.set_cons_zero, List.set_cons_succ]
    refine sqo_only (i := 2) rfl (by kernel_rfl) (by kernel_rfl) ?_
    have hr2 := fun (a₀ : Act) (o₀ : Oper) (K₀ : Act → World → Prop) (Q₀ : Exit → Act → World → Prop) => @sq_call Try.prog Q₀ a₀ o₀ w5.drew K₀ (Agg (.agg (u8s (rootF l)).toArray) w5.drew) 10 #[.slice A n c] 33
    refine hr2 _ _ _ _ ?_ ?_ ?_ ?_
    · kernel_rfl
    · kernel_rfl
    · exact (rroot_calls n w5.drew A n c l (Nat.le_refl _) HN.out HCC.out (by omega) (HD.out w5.drew (F5.out.trans hS5)))
    rintro e w6 ⟨rfl, f9⟩
    have hS6 := OldW.step hS5 f9
    clear f9
    refine ⟨_, rfl, hS6, ?_⟩
    clear hr2
    try simp only [Act.put, List.setIfInBounds_toArray, List.set_cons_zero, List.set_cons_succ]
    refine sqo_take (i := 3) (v := (.bool false)) (d := 34) rfl (by kernel_rfl) (by kernel_rfl) (by kernel_rfl) (by kernel_rfl) (by kernel_rfl) (fun _ _ _ h => h) ?_ (by assumption) ?_
    · intro w9 h9; exact ex_neq_digB w9 rfl (rootF l) (rootF l) (by kernel_rfl) (by kernel_rfl) (rootF_length _) (rootF_length _) (by simp)
    try simp only [Act.put, List.setIfInBounds_toArray, List.set_cons_zero, List.set_cons_succ]
    refine wpAnyH_done (by kernel_rfl) ?_ _
    go_wp2_with fail
    have HSG := Lib.hid (fun w8 (h8 : OldW w5 w8) AQ cQ (hQ : DgIn w8 AQ G) => (show Calls Try.prog 11 #[.slice AG nG cG, .slice AQ nG cQ] w8 (SameP w8 true) from by
        have := same_calls w8 AG nG cG G HNG.out (HDG.out.fr h8) AQ nG cQ G HNG.out hQ (by have := HG7.out; omega) (by have := HG7.out; omega)
        rwa [beq_self_eq_true] at this))
    have HGW := Lib.hid (fun w8 (h8 : OldW w5 w8) => (show Calls Try.prog 14 #[.agg (u8s (rootF (l.take m))).toArray, .int .i64 (m : Int), .agg (u8s (rootF l)).toArray, .int .i64 (n : Int), .slice AG nG cG] w8 (Agg (.bool true) w8) from by
        have := Grows_calls w8 (rootF (l.take m)) (rootF l) (rootF_length _) (rootF_length _) (m : Int) (n : Int) AG nG cG G HNG.out HcG.out (HDG.out.fr h8) (by have := HG7.out; omega)
        rwa [HGRB.out] at this))
    have HRG := Lib.hid (fun w8 (h8 : OldW w5 w8) => HRG0.out w8 (F5.out.trans h8)); have HRM := Lib.hid (fun w8 (h8 : OldW w5 w8) => HRM0.out w8 (F5.out.trans h8))
    have hT0 : OldW w6 w6.drew := (Fr.refl [] w6).drew
    refine sqo_begin (w0 := w6) (by kernel_rfl) ?_
    refine sqo_take (i := 0) (v := (.int .i64 0)) (d := 110) rfl (by kernel_rfl) (by kernel_rfl) (by kernel_rfl) (by kernel_rfl) (by kernel_rfl) (fun _ _ _ h => h) ?_ (by assumption) ?_
    · intro w9 h9; kernel_rfl
    try simp only [Act.put, List.setIfInBounds_toArray, List.set_cons_zero, List.set_cons_succ]
    refine sqo_take (i := 1) (v := (.bool true)) (d := 111) rfl (by kernel_rfl) (by kernel_rfl) (by kernel_rfl) (by kernel_rfl) (by kernel_rfl) (fun _ _ _ h => h) ?_ (by assumption) ?_
    · intro w9 h9; kernel_rfl
    try simp only [Act.put, List.setIfInBounds_toArray, List.set_cons_zero, List.set_cons_succ]
    refine sqo_take (i := 2) (v := (.bool true)) (d := 112) rfl (by kernel_rfl) (by kernel_rfl) (by kernel_rfl) (by kernel_rfl) (by kernel_rfl) (fun _ _ _ h => h) ?_ (by assumption) ?_
    · intro w9 h9; kernel_rfl
    try simp only [Act.put, List.setIfInBounds_toArray, List.set_cons_zero, List.set_cons_succ]
    refine sqo_take (i := 3) (v := (.slice AG nG cG)) (d := 113) rfl (by kernel_rfl) (by kernel_rfl) (by kernel_rfl) (by kernel_rfl) (by kernel_rfl) (fun _ _ _ h => h) ?_ (by assumption) ?_
    · intro w9 h9; kernel_rfl
    try simp only [Act.put, List.setIfInBounds_toArray, List.set_cons_zero, List.set_cons_succ]
    refine sqo_take (i := 4) (v := (.slice A n c)) (d := 114) rfl (by kernel_rfl) (by kernel_rfl) (by kernel_rfl) (by kernel_rfl) (by kernel_rfl) (fun _ _ _ h => h) ?_ (by assumption) ?_
    · intro w9 h9; kernel_rfl
    try simp only [Act.put, List.setIfInBounds_toArray, List.set_cons_zero, List.set_cons_succ]
    refine sqo_take (i := 5) (v := (.int .i64 (m : Int))) (d := 115) rfl (by kernel_rfl) (by kernel_rfl) (by kernel_rfl) (by kernel_rfl) (by kernel_rfl) (fun _ _ _ h => h) ?_ (by assumption) ?_
    · intro w9 h9; kernel_rfl
    try simp only [Act.put, List.setIfInBounds_toArray, List.set_cons_zero, List.set_cons_succ]
    refine sqo_only (i := 6) rfl (by kernel_rfl) (by kernel_rfl) ?_
    have hr6 := fun (a₀ : Act) (o₀ : Oper) (K₀ : Act → World → Prop) (Q₀ : Exit → Act → World → Prop) => @sq_call Try.prog Q₀ a₀ o₀ w6.drew K₀ (OwnD1 w6.drew G nG) 15 #[.slice A n c, .int .i64 (m : Int), .bool true] 116
    refine hr6 _ _ _ _ ?_ ?_ ?_ ?_
    · kernel_rfl
    · kernel_rfl
    · exact (HRG.out w6.drew (OldW.step hS6 hT0))
    rintro e w11 ⟨AR, cR, rfl, hDR, f9⟩
    have HDR := Lib.hid hDR
    have hT1 := OldW.step hT0 f9
    clear f9 hDR
    refine ⟨_, rfl, hT1, ?_⟩
    clear hr6
    try simp only [Act.put, List.setIfInBounds_toArray, List.set_cons_zero, List.set_cons_succ]
    refine sqo_only (i := 7) rfl (by kernel_rfl) (by kernel_rfl) ?_
    have hr7 := fun (a₀ : Act) (o₀ : Oper) (K₀ : Act → World → Prop) (Q₀ : Exit → Act → World → Prop) => @sq_call Try.prog Q₀ a₀ o₀ w11 K₀ (SameP w11 true) 11 #[.slice AG nG cG, .slice AR nG cR] 117
    refine hr7 _ _ _ _ ?_ ?_ ?_ ?_
    · kernel_rfl
    · kernel_rfl
    · exact (HSG.out w11 (OldW.step hS6 hT1) AR cR HDR.out)
    rintro e w12 ⟨rfl, f9⟩
    have hT2 := OldW.step hT1 f9
    clear f9
    refine ⟨_, rfl, hT2, ?_⟩
    clear hr7
    try simp only [Act.put, List.setIfInBounds_toArray, List.set_cons_zero, List.set_cons_succ]
    refine sqo_take (i := 8) (v := (.bool true)) (d := 118) rfl (by kernel_rfl) (by kernel_rfl) (by kernel_rfl) (by kernel_rfl) (by kernel_rfl) (fun _ _ _ h => h) ?_ (by assumption) ?_
    · intro w9 h9; kernel_rfl
    try simp only [Act.put, List.setIfInBounds_toArray, List.set_cons_zero, List.set_cons_succ]
    refine sqo_take (i := 9) (v := (.bool true)) (d := 119) rfl (by kernel_rfl) (by kernel_rfl) (by kernel_rfl) (by kernel_rfl) (by kernel_rfl) (fun _ _ _ h => h) ?_ (by assumption) ?_
    · intro w9 h9; kernel_rfl
    try simp only [Act.put, List.setIfInBounds_toArray, List.set_cons_zero, List.set_cons_succ]
    refine sqo_take (i := 10) (v := (.slice A n c)) (d := 120) rfl (by kernel_rfl) (by kernel_rfl) (by kernel_rfl) (by kernel_rfl) (by kernel_rfl) (fun _ _ _ h => h) ?_ (by assumption) ?_
    · intro w9 h9; kernel_rfl
    try simp only [Act.put, List.setIfInBounds_toArray, List.set_cons_zero, List.set_cons_succ]
    refine sqo_take (i := 11) (v := (.int .i64 (m : Int))) (d := 121) rfl (by kernel_rfl) (by kernel_rfl) (by kernel_rfl) (by kernel_rfl) (by kernel_rfl) (fun _ _ _ h => h) ?_ (by assumption) ?_
    · intro w9 h9; kernel_rfl
    try simp only [Act.put, List.setIfInBounds_toArray, List.set_cons_zero, List.set_cons_succ]
    refine sqo_take (i := 12) (v := (.slice A m c)) (d := 122) rfl (by kernel_rfl) (by kernel_rfl) (by kernel_rfl) (by kernel_rfl) (by kernel_rfl) (fun _ _ _ h => h) ?_ (by assumption) ?_
    · intro w9 h9; go_simp; omega
    try simp only [Act.put, List.setIfInBounds_toArray, List.set_cons_zero, List.set_cons_succ]
    refine sqo_take (i := 14) (v := (.int .i64 (m : Int))) (d := 124) rfl (by kernel_rfl) (by kernel_rfl) (by kernel_rfl) (by kernel_rfl) (by kernel_rfl) (fun _ _ _ h => h) ?_ (by assumption) ?_
    · intro w9 h9; kernel_rfl
    try simp only [Act.put, List.setIfInBounds_toArray, List.set_cons_zero, List.set_cons_succ]
    refine sqo_take (i := 15) (v := (.agg (u8s (rootF l)).toArray)) (d := 125) rfl (by kernel_rfl) (by kernel_rfl) (by kernel_rfl) (by kernel_rfl) (by kernel_rfl) (fun _ _ _ h => h) ?_ (by assumption) ?_
    · intro w9 h9; exact exec_load_agg rfl w2.heap.size 0 (by kernel_rfl) (u8s (rootF l)) _ (HCR.out w9 (OldW.step hS6 h9)) Try.underlying25 rfl HRF.out.2.1
    try simp only [Act.put, List.setIfInBounds_toArray, List.set_cons_zero, List.set_cons_succ]
    refine sqo_take (i := 16) (v := (.slice A n c)) (d := 126) rfl (by kernel_rfl) (by kernel_rfl) (by kernel_rfl) (by kernel_rfl) (by kernel_rfl) (fun _ _ _ h => h) ?_ (by assumption) ?_
    · intro w9 h9; kernel_rfl
    try simp only [Act.put, List.setIfInBounds_toArray, List.set_cons_zero, List.set_cons_succ]
    refine sqo_take (i := 17) (v := (.int .i64 (n : Int))) (d := 127) rfl (by kernel_rfl) (by kernel_rfl) (by kernel_rfl) (by kernel_rfl) (by kernel_rfl) (fun _ _ _ h => h) ?_ (by assumption) ?_
    · intro w9 h9; kernel_rfl
    try simp only [Act.put, List.setIfInBounds_toArray, List.set_cons_zero, List.set_cons_succ]
    refine sqo_take (i := 18) (v := (.slice AG nG cG)) (d := 128) rfl (by kernel_rfl) (by kernel_rfl) (by kernel_rfl) (by kernel_rfl) (by kernel_rfl) (fun _ _ _ h => h) ?_ (by assumption) ?_
    · intro w9 h9; kernel_rfl
    try simp only [Act.put, List.setIfInBounds_toArray, List.set_cons_zero, List.set_cons_succ]
    refine sqo_only (i := 13) rfl (by kernel_rfl) (by kernel_rfl) ?_
    have hr13 := fun (a₀ : Act) (o₀ : Oper) (K₀ : Act → World → Prop) (Q₀ : Exit → Act → World → Prop) => @sq_call Try.prog Q₀ a₀ o₀ w12 K₀ (Agg (.agg (u8s (rootF (l.take m))).toArray) w12) 7 #[.slice A m c] 123
    refine hr13 _ _ _ _ ?_ ?_ ?_ ?_
    · kernel_rfl
    · kernel_rfl
    · exact (HRM.out w12 (OldW.step hS6 hT2))
    rintro e w13 ⟨rfl, f9⟩
    have hT3 := OldW.step hT2 f9
    clear f9
    refine ⟨_, rfl, hT3, ?_⟩
    clear hr13
    try simp only [Act.put, List.setIfInBounds_toArray, List.set_cons_zero, List.set_cons_succ]
    refine sqo_only (i := 19) rfl (by kernel_rfl) (by kernel_rfl) ?_
    have hr19 := fun (a₀ : Act) (o₀ : Oper) (K₀ : Act → World → Prop) (Q₀ : Exit → Act → World → Prop) => @sq_call Try.prog Q₀ a₀ o₀ w13 K₀ (Agg (.bool true) w13) 14 #[.agg (u8s (rootF (l.take m))).toArray, .int .i64 (m : Int), .agg (u8s (rootF l)).toArray, .int .i64 (n : Int), .slice AG nG cG] 129
    refine hr19 _ _ _ _ ?_ ?_ ?_ ?_
    · kernel_rfl
    · kernel_rfl
    · exact (HGW.out w13 (OldW.step hS6 hT3))
    rintro e w14 ⟨rfl, f9⟩
    have hT4 := OldW.step hT3 f9
    clear f9
    refine ⟨_, rfl, hT4, ?_⟩
    clear hr19
    try simp only [Act.put, List.setIfInBounds_toArray, List.set_cons_zero, List.set_cons_succ]
    refine sqo_take (i := 20) (v := (.bool true)) (d := 130) rfl (by kernel_rfl) (by kernel_rfl) (by kernel_rfl) (by kernel_rfl) (by kernel_rfl) (fun _ _ _ h => h) ?_ (by assumption) ?_
    · intro w9 h9; kernel_rfl
    try simp only [Act.put, List.setIfInBounds_toArray, List.set_cons_zero, List.set_cons_succ]
    refine sqo_take (i := 21) (v := (.bool true)) (d := 131) rfl (by kernel_rfl) (by kernel_rfl) (by kernel_rfl) (by kernel_rfl) (by kernel_rfl) (fun _ _ _ h => h) ?_ (by assumption) ?_
    · intro w9 h9; kernel_rfl
    try simp only [Act.put, List.setIfInBounds_toArray, List.set_cons_zero, List.set_cons_succ]
    refine sqo_take (i := 22) (v := (.slice AG nG cG)) (d := 132) rfl (by kernel_rfl) (by kernel_rfl) (by kernel_rfl) (by kernel_rfl) (by kernel_rfl) (fun _ _ _ h => h) ?_ (by assumption) ?_
    · intro w9 h9; kernel_rfl
    try simp only [Act.put, List.setIfInBounds_toArray, List.set_cons_zero, List.set_cons_succ]
    refine sqo_take (i := 23) (v := (.int .i64 (nG : Int))) (d := 133) rfl (by kernel_rfl) (by kernel_rfl) (by kernel_rfl) (by kernel_rfl) (by kernel_rfl) (fun _ _ _ h => h) ?_ (by assumption) ?_
    · intro w9 h9; kernel_rfl
    try simp only [Act.put, List.setIfInBounds_toArray, List.set_cons_zero, List.set_cons_succ]
    refine sqo_take (i := 24) (v := (.bool (decide ((nG : Int) ≤ 7)))) (d := 134) rfl (by kernel_rfl) (by kernel_rfl) (by kernel_rfl) (by kernel_rfl) (by kernel_rfl) (fun _ _ _ h => h) ?_ (by assumption) ?_
    · intro w9 h9; kernel_rfl
    try simp only [Act.put, List.setIfInBounds_toArray, List.set_cons_zero, List.set_cons_succ]
    refine sqo_take (i := 25) (v := (.bool (decide ((nG : Int) ≤ 7)))) (d := 135) rfl (by kernel_rfl) (by kernel_rfl) (by kernel_rfl) (by kernel_rfl) (by kernel_rfl) (fun _ _ _ h => h) ?_ (by assumption) ?_
    · intro w9 h9; kernel_rfl
    try simp only [Act.put, List.setIfInBounds_toArray, List.set_cons_zero, List.set_cons_succ]
    refine sqo_take (i := 26) (v := (.bool (decide ((nG : Int) ≤ 7)))) (d := 6) rfl (by kernel_rfl) (by kernel_rfl) (by kernel_rfl) (by kernel_rfl) (by kernel_rfl) (fun _ _ _ h => h) ?_ (by assumption) ?_
    · intro w9 h9; kernel_rfl
    try simp only [Act.put, List.setIfInBounds_toArray, List.set_cons_zero, List.set_cons_succ]
    refine wpAnyH_done (by kernel_rfl) ?_ _
    go_wp2_with fail
    go_ret
    have h7 : decide ((nG : Int) ≤ 7) = true := decide_eq_true (by have := HG7.out; omega)
    rw [h7]
    exact ⟨rfl, F5.out.trans (OldW.step hS6 hT4)⟩
set_option maxHeartbeats 4000000 in
set_option maxRecDepth 100000 in
theorem proofs_big (w : World) (A : Option Addr) (n c : Nat) (l : List (List UInt8)) (hn : l.length = n) (hc : n ≤ c) (hD : DgIn w A l) (h40 : n ≤ 40) (i : Int) (hi0 : 0 ≤ i) (hi : (n : Int) ≤ i) (m : Int) :
    Calls Try.prog 3 #[.slice A n c, .int .i64 i, .int .i64 m] w (AliveR w) := by
  have HAL := Lib.hid (alive18_calls w); have HN := Lib.hid hn; have HCC := Lib.hid hc
  have HRT := Lib.hid (fun w2 (f2 : Fr [] w w2) => root_calls n w2 A n c l (Nat.le_refl _) hn hc (by omega) (hD.fr f2))
  have HD := Lib.hid (fun w2 (f2 : Fr [] w w2) => hD.fr f2)
  have HRF := Lib.hid (digF (rootF l) (rootF_length _))
  have hnI : (0 : Int) ≤ (n : Int) ∧ (n : Int) ≤ 40 := by omega
  have HPC := Lib.hid (fun w2 (f2 : Fr [] w w2) => (Path_calls w2 A n c i l hn hc (by omega) (hD.fr f2)).mono fun e w' h => OwnD2.to3 (r := []) (er := 1) (n := 0) rfl (by rw [show pathR l i = ([], 1) from by unfold pathR; rw [if_pos (by omega)]] at h; exact h))
  have hmc : m < 0 ∨ (0 ≤ m ∧ (n : Int) < m) ∨ m = 0 ∨ (1 ≤ m ∧ m ≤ (n : Int)) := by omega
  rcases hmc with hm | ⟨hm0, hm⟩ | hm | ⟨hm1, hm2⟩
  · have HGC := Lib.hid (fun w2 (f2 : Fr [] w w2) => (Growth_calls w2 A n c m l hn hc (by omega) (hD.fr f2)).mono fun e w' h => OwnD2.to3 (r := []) (er := 1) (n := 0) rfl (by rw [show growR l m = ([], 1) from by unfold growR; rw [if_pos (by omega)]] at h; exact h))
    have hI2 : m < 0 := hm
    clear hn hc hD h40 hm
    go_enter Try.func3, Try.ntmps3
    go_wp2_with (first
      | (go_at_call 6; (with_reducible refine HAL.out.mono ?_); rintro e w1 ⟨rfl, f1⟩; have F1 := Lib.hid f1; clear f1)
      | (go_at_call 7; (refine (HRT.out w1 F1.out).mono ?_); rintro e w2 ⟨rfl, f2⟩; have F2 := Lib.hid (F1.out.trans f2); clear f2)
      | (refine wpList_alloc_agg rfl 25 rfl (zs 32).toArray arr32_zero ?_)
      | (refine wpList_store_agg rfl 25 (.tmp 7) (.tmp 18) rfl w2.heap.size 0 rfl (u8s (rootF l)) rfl (zs 32) 25 (Blk.new w2 _ _) HRF.out.1 (u8s_one _) HRF.out.2.1 ?_; rw [HRF.out.2.2]; obtain ⟨w3, hw3⟩ : ∃ W, (w2.alloc (.cells (zs 32).toArray 25)).setRow w2.heap.size (u8s (rootF l)).toArray = W := ⟨_, rfl⟩; rw [hw3];
          have F3 := Lib.hid (F2.out.trans (show Fr [] w2 w3 from hw3 ▸ ((Fr.refl [] w2).alloc _).setRow (.inr (Nat.le_refl _)) _)); have HR3 := Lib.hid (show Blk w3 w2.heap.size 25 (u8s (rootF l)).toArray from hw3 ▸ (Blk.new w2 _ _).setRow_ _); clear hw3)
      | (go_at_call 8; (refine (HPC.out w3 F3.out).mono ?_); rintro e w4 ⟨AP, cP, rfl, hcP, hDP, _, f4⟩; have HDP := Lib.hid hDP; have HcP := Lib.hid hcP; have F4 := Lib.hid (F3.out.trans f4); have HR4 := Lib.hid (HR3.out.fr f4 (by simp)); clear f4 hDP hcP)
      | (go_at_call 9; (refine (HGC.out w4 F4.out).mono ?_); rintro e w5 ⟨AG, cG, rfl, hcG, hDG, _, f5⟩; have HDG := Lib.hid hDG; have HcG := Lib.hid hcG; have F5 := Lib.hid (F4.out.trans f5); have HR5 := Lib.hid (HR4.out.fr f5 (by simp)); have HDP5 := Lib.hid (HDP.out.fr f5); clear f5 hDG hcG))
    have HCR := Lib.hid (fun w9 (h9 : OldW w5 w9) => rd_row (HR5.out.fr h9 (by simp)))
    have hS5 : OldW w5 w5.drew := (Fr.refl [] w5).drew
    refine sqo_begin (w0 := w5) (by kernel_rfl) ?_
    refine sqo_take (i := 0) (v := (.agg (u8s (rootF l)).toArray)) (d := 31) rfl (by kernel_rfl) (by kernel_rfl) (by kernel_rfl) (by kernel_rfl) (by kernel_rfl) (fun _ _ _ h => h) ?_ (by assumption) ?_
    · intro w9 h9; exact exec_load_agg rfl w2.heap.size 0 (by kernel_rfl) (u8s (rootF l)) _ (HCR.out w9 h9) Try.underlying25 rfl HRF.out.2.1
    try simp only [Act.put, List.setIfInBounds_toArray, List.set_cons_zero, List.set_cons_succ]
    refine sqo_take (i := 1) (v := (.slice A n c)) (d := 32) rfl (by kernel_rfl) (by kernel_rfl) (by kernel_rfl) (by kernel_rfl) (by kernel_rfl) (fun _ _ _ h => h) ?_ (by assumption) ?_
    · intro w9 h9; kernel_rfl
    try simp only [Act.put, List.setIfInBounds_toArray, List.set_cons_zero, List.set_cons_succ]
    refine sqo_only (i := 2) rfl (by kernel_rfl) (by kernel_rfl) ?_
    have hr2 := fun (a₀ : Act) (o₀ : Oper) (K₀ : Act → World → Prop) (Q₀ : Exit → Act → World → Prop) => @sq_call Try.prog Q₀ a₀ o₀ w5.drew K₀ (Agg (.agg (u8s (rootF l)).toArray) w5.drew) 10 #[.slice A n c] 33
    refine hr2 _ _ _ _ ?_ ?_ ?_ ?_
    · kernel_rfl
    · kernel_rfl
    · exact (rroot_calls n w5.drew A n c l (Nat.le_refl _) HN.out HCC.out (by omega) (HD.out w5.drew (F5.out.trans hS5)))
    rintro e w6 ⟨rfl, f9⟩
    have hS6 := OldW.step hS5 f9
    clear f9
    refine ⟨_, rfl, hS6, ?_⟩
    clear hr2
    try simp only [Act.put, List.setIfInBounds_toArray, List.set_cons_zero, List.set_cons_succ]
    refine sqo_take (i := 3) (v := (.bool false)) (d := 34) rfl (by kernel_rfl) (by kernel_rfl) (by kernel_rfl) (by kernel_rfl) (by kernel_rfl) (fun _ _ _ h => h) ?_ (by assumption) ?_
    · intro w9 h9; exact ex_neq_digB w9 rfl (rootF l) (rootF l) (by kernel_rfl) (by kernel_rfl) (rootF_length _) (rootF_length _) (by simp)
    try simp only [Act.put, List.setIfInBounds_toArray, List.set_cons_zero, List.set_cons_succ]
    refine wpAnyH_done (by kernel_rfl) ?_ _
    go_wp2_with fail
    go_ret
    exact ⟨rfl, F5.out.trans hS6⟩
  · have HGC := Lib.hid (fun w2 (f2 : Fr [] w w2) => (Growth_calls w2 A n c m l hn hc (by omega) (hD.fr f2)).mono fun e w' h => OwnD2.to3 (r := []) (er := 1) (n := 0) rfl (by rw [show growR l m = ([], 1) from by unfold growR; rw [if_pos (by omega)]] at h; exact h))
    have hI2 : 0 ≤ m ∧ (n : Int) < m := ⟨hm0, hm⟩
    clear hn hc hD h40 hm0 hm
    go_enter Try.func3, Try.ntmps3
    go_wp2_with (first
      | (go_at_call 6; (with_reducible refine HAL.out.mono ?_); rintro e w1 ⟨rfl, f1⟩; have F1 := Lib.hid f1; clear f1)
      | (go_at_call 7; (refine (HRT.out w1 F1.out).mono ?_); rintro e w2 ⟨rfl, f2⟩; have F2 := Lib.hid (F1.out.trans f2); clear f2)
      | (refine wpList_alloc_agg rfl 25 rfl (zs 32).toArray arr32_zero ?_)
      | (refine wpList_store_agg rfl 25 (.tmp 7) (.tmp 18) rfl w2.heap.size 0 rfl (u8s (rootF l)) rfl (zs 32) 25 (Blk.new w2 _ _) HRF.out.1 (u8s_one _) HRF.out.2.1 ?_; rw [HRF.out.2.2]; obtain ⟨w3, hw3⟩ : ∃ W, (w2.alloc (.cells (zs 32).toArray 25)).setRow w2.heap.size (u8s (rootF l)).toArray = W := ⟨_, rfl⟩; rw [hw3];
          have F3 := Lib.hid (F2.out.trans (show Fr [] w2 w3 from hw3 ▸ ((Fr.refl [] w2).alloc _).setRow (.inr (Nat.le_refl _)) _)); have HR3 := Lib.hid (show Blk w3 w2.heap.size 25 (u8s (rootF l)).toArray from hw3 ▸ (Blk.new w2 _ _).setRow_ _); clear hw3)
      | (go_at_call 8; (refine (HPC.out w3 F3.out).mono ?_); rintro e w4 ⟨AP, cP, rfl, hcP, hDP, _, f4⟩; have HDP := Lib.hid hDP; have HcP := Lib.hid hcP; have F4 := Lib.hid (F3.out.trans f4); have HR4 := Lib.hid (HR3.out.fr f4 (by simp)); clear f4 hDP hcP)
      | (go_at_call 9; (refine (HGC.out w4 F4.out).mono ?_); rintro e w5 ⟨AG, cG, rfl, hcG, hDG, _, f5⟩; have HDG := Lib.hid hDG; have HcG := Lib.hid hcG; have F5 := Lib.hid (F4.out.trans f5); have HR5 := Lib.hid (HR4.out.fr f5 (by simp)); have HDP5 := Lib.hid (HDP.out.fr f5); clear f5 hDG hcG))
    have HCR := Lib.hid (fun w9 (h9 : OldW w5 w9) => rd_row (HR5.out.fr h9 (by simp)))
    have hS5 : OldW w5 w5.drew := (Fr.refl [] w5).drew
    refine sqo_begin (w0 := w5) (by kernel_rfl) ?_
    refine sqo_take (i := 0) (v := (.agg (u8s (rootF l)).toArray)) (d := 31) rfl (by kernel_rfl) (by kernel_rfl) (by kernel_rfl) (by kernel_rfl) (by kernel_rfl) (fun _ _ _ h => h) ?_ (by assumption) ?_
    · intro w9 h9; exact exec_load_agg rfl w2.heap.size 0 (by kernel_rfl) (u8s (rootF l)) _ (HCR.out w9 h9) Try.underlying25 rfl HRF.out.2.1
    try simp only [Act.put, List.setIfInBounds_toArray, List.set_cons_zero, List.set_cons_succ]
    refine sqo_take (i := 1) (v := (.slice A n c)) (d := 32) rfl (by kernel_rfl) (by kernel_rfl) (by kernel_rfl) (by kernel_rfl) (by kernel_rfl) (fun _ _ _ h => h) ?_ (by assumption) ?_
    · intro w9 h9; kernel_rfl
    try simp only [Act.put, List.setIfInBounds_toArray, List.set_cons_zero, List.set_cons_succ]
    refine sqo_only (i := 2) rfl (by kernel_rfl) (by kernel_rfl) ?_
    have hr2 := fun (a₀ : Act) (o₀ : Oper) (K₀ : Act → World → Prop) (Q₀ : Exit → Act → World → Prop) => @sq_call Try.prog Q₀ a₀ o₀ w5.drew K₀ (Agg (.agg (u8s (rootF l)).toArray) w5.drew) 10 #[.slice A n c] 33
    refine hr2 _ _ _ _ ?_ ?_ ?_ ?_
    · kernel_rfl
    · kernel_rfl
    · exact (rroot_calls n w5.drew A n c l (Nat.le_refl _) HN.out HCC.out (by omega) (HD.out w5.drew (F5.out.trans hS5)))
    rintro e w6 ⟨rfl, f9⟩
    have hS6 := OldW.step hS5 f9
    clear f9
    refine ⟨_, rfl, hS6, ?_⟩
    clear hr2
    try simp only [Act.put, List.setIfInBounds_toArray, List.set_cons_zero, List.set_cons_succ]
    refine sqo_take (i := 3) (v := (.bool false)) (d := 34) rfl (by kernel_rfl) (by kernel_rfl) (by kernel_rfl) (by kernel_rfl) (by kernel_rfl) (fun _ _ _ h => h) ?_ (by assumption) ?_
    · intro w9 h9; exact ex_neq_digB w9 rfl (rootF l) (rootF l) (by kernel_rfl) (by kernel_rfl) (rootF_length _) (rootF_length _) (by simp)
    try simp only [Act.put, List.setIfInBounds_toArray, List.set_cons_zero, List.set_cons_succ]
    refine wpAnyH_done (by kernel_rfl) ?_ _
    go_wp2_with fail
    go_ret
    exact ⟨rfl, F5.out.trans hS6⟩
  · subst hm
    have HGC := Lib.hid (fun w2 (f2 : Fr [] w w2) => (Growth_calls w2 A n c 0 l hn hc (by omega) (hD.fr f2)).mono fun e w' h => OwnD2.to3 (r := []) (er := 0) (n := 0) rfl (by rw [show growR l 0 = ([], 0) from by unfold growR; rw [if_neg (by omega), if_pos rfl]] at h; exact h))
    clear hn hc hD h40
    go_enter Try.func3, Try.ntmps3
    go_wp2_with (first
      | (go_at_call 6; (with_reducible refine HAL.out.mono ?_); rintro e w1 ⟨rfl, f1⟩; have F1 := Lib.hid f1; clear f1)
      | (go_at_call 7; (refine (HRT.out w1 F1.out).mono ?_); rintro e w2 ⟨rfl, f2⟩; have F2 := Lib.hid (F1.out.trans f2); clear f2)
      | (refine wpList_alloc_agg rfl 25 rfl (zs 32).toArray arr32_zero ?_)
      | (refine wpList_store_agg rfl 25 (.tmp 7) (.tmp 18) rfl w2.heap.size 0 rfl (u8s (rootF l)) rfl (zs 32) 25 (Blk.new w2 _ _) HRF.out.1 (u8s_one _) HRF.out.2.1 ?_; rw [HRF.out.2.2]; obtain ⟨w3, hw3⟩ : ∃ W, (w2.alloc (.cells (zs 32).toArray 25)).setRow w2.heap.size (u8s (rootF l)).toArray = W := ⟨_, rfl⟩; rw [hw3];
          have F3 := Lib.hid (F2.out.trans (show Fr [] w2 w3 from hw3 ▸ ((Fr.refl [] w2).alloc _).setRow (.inr (Nat.le_refl _)) _)); have HR3 := Lib.hid (show Blk w3 w2.heap.size 25 (u8s (rootF l)).toArray from hw3 ▸ (Blk.new w2 _ _).setRow_ _); clear hw3)
      | (go_at_call 8; (refine (HPC.out w3 F3.out).mono ?_); rintro e w4 ⟨AP, cP, rfl, hcP, hDP, _, f4⟩; have HDP := Lib.hid hDP; have HcP := Lib.hid hcP; have F4 := Lib.hid (F3.out.trans f4); have HR4 := Lib.hid (HR3.out.fr f4 (by simp)); clear f4 hDP hcP)
      | (go_at_call 9; (refine (HGC.out w4 F4.out).mono ?_); rintro e w5 ⟨AG, cG, rfl, hcG, hDG, _, f5⟩; have HDG := Lib.hid hDG; have HcG := Lib.hid hcG; have F5 := Lib.hid (F4.out.trans f5); have HR5 := Lib.hid (HR4.out.fr f5 (by simp)); have HDP5 := Lib.hid (HDP.out.fr f5); clear f5 hDG hcG))
    have HCR := Lib.hid (fun w9 (h9 : OldW w5 w9) => rd_row (HR5.out.fr h9 (by simp)))
    have hS5 : OldW w5 w5.drew := (Fr.refl [] w5).drew
    refine sqo_begin (w0 := w5) (by kernel_rfl) ?_
    refine sqo_take (i := 0) (v := (.agg (u8s (rootF l)).toArray)) (d := 31) rfl (by kernel_rfl) (by kernel_rfl) (by kernel_rfl) (by kernel_rfl) (by kernel_rfl) (fun _ _ _ h => h) ?_ (by assumption) ?_
    · intro w9 h9; exact exec_load_agg rfl w2.heap.size 0 (by kernel_rfl) (u8s (rootF l)) _ (HCR.out w9 h9) Try.underlying25 rfl HRF.out.2.1
    try simp only [Act.put, List.setIfInBounds_toArray, List.set_cons_zero, List.set_cons_succ]
    refine sqo_take (i := 1) (v := (.slice A n c)) (d := 32) rfl (by kernel_rfl) (by kernel_rfl) (by kernel_rfl) (by kernel_rfl) (by kernel_rfl) (fun _ _ _ h => h) ?_ (by assumption) ?_
    · intro w9 h9; kernel_rfl
    try simp only [Act.put, List.setIfInBounds_toArray, List.set_cons_zero, List.set_cons_succ]
    refine sqo_only (i := 2) rfl (by kernel_rfl) (by kernel_rfl) ?_
    have hr2 := fun (a₀ : Act) (o₀ : Oper) (K₀ : Act → World → Prop) (Q₀ : Exit → Act → World → Prop) => @sq_call Try.prog Q₀ a₀ o₀ w5.drew K₀ (Agg (.agg (u8s (rootF l)).toArray) w5.drew) 10 #[.slice A n c] 33
    refine hr2 _ _ _ _ ?_ ?_ ?_ ?_
    · kernel_rfl
    · kernel_rfl
    · exact (rroot_calls n w5.drew A n c l (Nat.le_refl _) HN.out HCC.out (by omega) (HD.out w5.drew (F5.out.trans hS5)))
    rintro e w6 ⟨rfl, f9⟩
    have hS6 := OldW.step hS5 f9
    clear f9
    refine ⟨_, rfl, hS6, ?_⟩
    clear hr2
    try simp only [Act.put, List.setIfInBounds_toArray, List.set_cons_zero, List.set_cons_succ]
    refine sqo_take (i := 3) (v := (.bool false)) (d := 34) rfl (by kernel_rfl) (by kernel_rfl) (by kernel_rfl) (by kernel_rfl) (by kernel_rfl) (fun _ _ _ h => h) ?_ (by assumption) ?_
    · intro w9 h9; exact ex_neq_digB w9 rfl (rootF l) (rootF l) (by kernel_rfl) (by kernel_rfl) (rootF_length _) (rootF_length _) (by simp)
    try simp only [Act.put, List.setIfInBounds_toArray, List.set_cons_zero, List.set_cons_succ]
    refine wpAnyH_done (by kernel_rfl) ?_ _
    go_wp2_with fail
    have HGW := Lib.hid (fun w8 (h8 : OldW w5 w8) => (show Calls Try.prog 14 #[.agg (u8s (rootF [])).toArray, .int .i64 0, .agg (u8s (rootF l)).toArray, .int .i64 (n : Int), .slice AG 0 cG] w8 (Agg (.bool true) w8) from by
        have := Grows_calls w8 (rootF []) (rootF l) (rootF_length _) (rootF_length _) 0 (n : Int) AG 0 cG [] rfl HcG.out (HDG.out.fr h8) (by omega)
        rwa [grB_zero _ _ (by omega)] at this))
    have hT0 : OldW w6 w6.drew := (Fr.refl [] w6).drew
    refine sqo_begin (w0 := w6) (by kernel_rfl) ?_
    refine sqo_take (i := 0) (v := (.slice AG 0 cG)) (d := 95) rfl (by kernel_rfl) (by kernel_rfl) (by kernel_rfl) (by kernel_rfl) (by kernel_rfl) (fun _ _ _ h => h) ?_ (by assumption) ?_
    · intro w9 h9; kernel_rfl
    try simp only [Act.put, List.setIfInBounds_toArray, List.set_cons_zero, List.set_cons_succ]
    refine sqo_take (i := 1) (v := (.int .i64 0)) (d := 96) rfl (by kernel_rfl) (by kernel_rfl) (by kernel_rfl) (by kernel_rfl) (by kernel_rfl) (fun _ _ _ h => h) ?_ (by assumption) ?_
    · intro w9 h9; kernel_rfl
    try simp only [Act.put, List.setIfInBounds_toArray, List.set_cons_zero, List.set_cons_succ]
    refine sqo_take (i := 2) (v := (.bool true)) (d := 97) rfl (by kernel_rfl) (by kernel_rfl) (by kernel_rfl) (by kernel_rfl) (by kernel_rfl) (fun _ _ _ h => h) ?_ (by assumption) ?_
    · intro w9 h9; kernel_rfl
    try simp only [Act.put, List.setIfInBounds_toArray, List.set_cons_zero, List.set_cons_succ]
    refine sqo_take (i := 3) (v := (.bool true)) (d := 98) rfl (by kernel_rfl) (by kernel_rfl) (by kernel_rfl) (by kernel_rfl) (by kernel_rfl) (fun _ _ _ h => h) ?_ (by assumption) ?_
    · intro w9 h9; kernel_rfl
    try simp only [Act.put, List.setIfInBounds_toArray, List.set_cons_zero, List.set_cons_succ]
    refine sqo_take (i := 4) (v := (.int .i64 0)) (d := 99) rfl (by kernel_rfl) (by kernel_rfl) (by kernel_rfl) (by kernel_rfl) (by kernel_rfl) (fun _ _ _ h => h) ?_ (by assumption) ?_
    · intro w9 h9; kernel_rfl
    try simp only [Act.put, List.setIfInBounds_toArray, List.set_cons_zero, List.set_cons_succ]
    refine sqo_take (i := 5) (v := (.bool true)) (d := 100) rfl (by kernel_rfl) (by kernel_rfl) (by kernel_rfl) (by kernel_rfl) (by kernel_rfl) (fun _ _ _ h => h) ?_ (by assumption) ?_
    · intro w9 h9; kernel_rfl
    try simp only [Act.put, List.setIfInBounds_toArray, List.set_cons_zero, List.set_cons_succ]
    refine sqo_take (i := 6) (v := (.bool true)) (d := 101) rfl (by kernel_rfl) (by kernel_rfl) (by kernel_rfl) (by kernel_rfl) (by kernel_rfl) (fun _ _ _ h => h) ?_ (by assumption) ?_
    · intro w9 h9; kernel_rfl
    try simp only [Act.put, List.setIfInBounds_toArray, List.set_cons_zero, List.set_cons_succ]
    refine sqo_take (i := 7) (v := (.bool true)) (d := 102) rfl (by kernel_rfl) (by kernel_rfl) (by kernel_rfl) (by kernel_rfl) (by kernel_rfl) (fun _ _ _ h => h) ?_ (by assumption) ?_
    · intro w9 h9; kernel_rfl
    try simp only [Act.put, List.setIfInBounds_toArray, List.set_cons_zero, List.set_cons_succ]
    refine sqo_take (i := 9) (v := (.agg (u8s (rootF l)).toArray)) (d := 104) rfl (by kernel_rfl) (by kernel_rfl) (by kernel_rfl) (by kernel_rfl) (by kernel_rfl) (fun _ _ _ h => h) ?_ (by assumption) ?_
    · intro w9 h9; exact exec_load_agg rfl w2.heap.size 0 (by kernel_rfl) (u8s (rootF l)) _ (HCR.out w9 (OldW.step hS6 h9)) Try.underlying25 rfl HRF.out.2.1
    try simp only [Act.put, List.setIfInBounds_toArray, List.set_cons_zero, List.set_cons_succ]
    refine sqo_take (i := 10) (v := (.slice A n c)) (d := 105) rfl (by kernel_rfl) (by kernel_rfl) (by kernel_rfl) (by kernel_rfl) (by kernel_rfl) (fun _ _ _ h => h) ?_ (by assumption) ?_
    · intro w9 h9; kernel_rfl
    try simp only [Act.put, List.setIfInBounds_toArray, List.set_cons_zero, List.set_cons_succ]
    refine sqo_take (i := 11) (v := (.int .i64 (n : Int))) (d := 106) rfl (by kernel_rfl) (by kernel_rfl) (by kernel_rfl) (by kernel_rfl) (by kernel_rfl) (fun _ _ _ h => h) ?_ (by assumption) ?_
    · intro w9 h9; kernel_rfl
    try simp only [Act.put, List.setIfInBounds_toArray, List.set_cons_zero, List.set_cons_succ]
    refine sqo_take (i := 12) (v := (.slice AG 0 cG)) (d := 107) rfl (by kernel_rfl) (by kernel_rfl) (by kernel_rfl) (by kernel_rfl) (by kernel_rfl) (fun _ _ _ h => h) ?_ (by assumption) ?_
    · intro w9 h9; kernel_rfl
    try simp only [Act.put, List.setIfInBounds_toArray, List.set_cons_zero, List.set_cons_succ]
    refine sqo_only (i := 8) rfl (by kernel_rfl) (by kernel_rfl) ?_
    have hr8 := fun (a₀ : Act) (o₀ : Oper) (K₀ : Act → World → Prop) (Q₀ : Exit → Act → World → Prop) => @sq_call Try.prog Q₀ a₀ o₀ w6.drew K₀ (Agg (.agg (u8s (rootF [])).toArray) w6.drew) 7 #[.slice none 0 0] 103
    refine hr8 _ _ _ _ ?_ ?_ ?_ ?_
    · kernel_rfl
    · kernel_rfl
    · exact (root_calls 0 w6.drew none 0 0 [] (by omega) rfl (by omega) (by omega) (fun i d hd => by simp at hd))
    rintro e w11 ⟨rfl, f9⟩
    have hT1 := OldW.step hT0 f9
    clear f9
    refine ⟨_, rfl, hT1, ?_⟩
    clear hr8
    try simp only [Act.put, List.setIfInBounds_toArray, List.set_cons_zero, List.set_cons_succ]
    refine sqo_only (i := 13) rfl (by kernel_rfl) (by kernel_rfl) ?_
    have hr13 := fun (a₀ : Act) (o₀ : Oper) (K₀ : Act → World → Prop) (Q₀ : Exit → Act → World → Prop) => @sq_call Try.prog Q₀ a₀ o₀ w11 K₀ (Agg (.bool true) w11) 14 #[.agg (u8s (rootF [])).toArray, .int .i64 0, .agg (u8s (rootF l)).toArray, .int .i64 (n : Int), .slice AG 0 cG] 108
    refine hr13 _ _ _ _ ?_ ?_ ?_ ?_
    · kernel_rfl
    · kernel_rfl
    · exact (HGW.out w11 (OldW.step hS6 hT1))
    rintro e w12 ⟨rfl, f9⟩
    have hT2 := OldW.step hT1 f9
    clear f9
    refine ⟨_, rfl, hT2, ?_⟩
    clear hr13
    try simp only [Act.put, List.setIfInBounds_toArray, List.set_cons_zero, List.set_cons_succ]
    refine sqo_take (i := 14) (v := (.bool true)) (d := 109) rfl (by kernel_rfl) (by kernel_rfl) (by kernel_rfl) (by kernel_rfl) (by kernel_rfl) (fun _ _ _ h => h) ?_ (by assumption) ?_
    · intro w9 h9; kernel_rfl
    try simp only [Act.put, List.setIfInBounds_toArray, List.set_cons_zero, List.set_cons_succ]
    refine sqo_take (i := 15) (v := (.bool true)) (d := 6) rfl (by kernel_rfl) (by kernel_rfl) (by kernel_rfl) (by kernel_rfl) (by kernel_rfl) (fun _ _ _ h => h) ?_ (by assumption) ?_
    · intro w9 h9; kernel_rfl
    try simp only [Act.put, List.setIfInBounds_toArray, List.set_cons_zero, List.set_cons_succ]
    refine wpAnyH_done (by kernel_rfl) ?_ _
    go_wp2_with fail
    go_ret
    exact ⟨rfl, F5.out.trans (OldW.step hS6 hT2)⟩
  · obtain ⟨m, rfl⟩ := Int.eq_ofNat_of_zero_le (show 0 ≤ m by omega)
    have HGC := Lib.hid (fun w2 (f2 : Fr [] w w2) => (Growth_calls w2 A n c (m : Int) l hn hc (by omega) (hD.fr f2)).mono fun e w' h => OwnD2.to3 (r := restF l m true) (er := 0) (n := (restF l m true).length) rfl (by rw [show growR l (m : Int) = (restF l m true, 0) from by unfold growR; rw [if_neg (by omega), if_neg (by omega)]; rfl] at h; exact h))
    have hG7 := restF_log l m true 6 (by omega) (by omega)
    have HRG0 := Lib.hid (fun w8 (h8 : Fr [] w w8) => (rrest_calls n w8 A n c m true l (Nat.le_refl _) hn hc (by omega) (by omega) (by omega) (hD.fr h8)).mono fun e w' h => OwnD.to1 (n := (restF l m true).length) rfl h)
    have HGRB := Lib.hid (grB_complete l n m hn (by omega) (by omega) (by omega))
    have HRM0 := Lib.hid (fun w8 (h8 : Fr [] w w8) => root_calls m w8 A m c (l.take m) (Nat.le_refl _) (by rw [List.length_take]; omega) (by omega) (by omega) ((hD.fr h8).take m))
    obtain ⟨G, hG⟩ : ∃ G, restF l m true = G := ⟨_, rfl⟩
    rw [hG] at HGC hG7 HRG0 HGRB
    obtain ⟨nG, hnG⟩ : ∃ k, G.length = k := ⟨_, rfl⟩
    rw [hnG] at HGC hG7 HRG0
    have HNG := Lib.hid hnG; have HG7 := Lib.hid hG7
    have hI2 : (1 : Int) ≤ (m : Int) ∧ (m : Int) ≤ (n : Int) ∧ (n : Int) ≤ (c : Int) := by omega
    have hmz : ((m : Int) == 0) = false := by rw [beq_eq_false_iff_ne]; omega
    clear hG hnG hG7
    clear hn hc hD h40 hm1 hm2
    go_enter Try.func3, Try.ntmps3
    go_wp2_with (first
      | (go_at_call 6; (with_reducible refine HAL.out.mono ?_); rintro e w1 ⟨rfl, f1⟩; have F1 := Lib.hid f1; clear f1)
      | (go_at_call 7; (refine (HRT.out w1 F1.out).mono ?_); rintro e w2 ⟨rfl, f2⟩; have F2 := Lib.hid (F1.out.trans f2); clear f2)
      | (refine wpList_alloc_agg rfl 25 rfl (zs 32).toArray arr32_zero ?_)
      | (refine wpList_store_agg rfl 25 (.tmp 7) (.tmp 18) rfl w2.heap.size 0 rfl (u8s (rootF l)) rfl (zs 32) 25 (Blk.new w2 _ _) HRF.out.1 (u8s_one _) HRF.out.2.1 ?_; rw [HRF.out.2.2]; obtain ⟨w3, hw3⟩ : ∃ W, (w2.alloc (.cells (zs 32).toArray 25)).setRow w2.heap.size (u8s (rootF l)).toArray = W := ⟨_, rfl⟩; rw [hw3];
          have F3 := Lib.hid (F2.out.trans (show Fr [] w2 w3 from hw3 ▸ ((Fr.refl [] w2).alloc _).setRow (.inr (Nat.le_refl _)) _)); have HR3 := Lib.hid (show Blk w3 w2.heap.size 25 (u8s (rootF l)).toArray from hw3 ▸ (Blk.new w2 _ _).setRow_ _); clear hw3)
      | (go_at_call 8; (refine (HPC.out w3 F3.out).mono ?_); rintro e w4 ⟨AP, cP, rfl, hcP, hDP, _, f4⟩; have HDP := Lib.hid hDP; have HcP := Lib.hid hcP; have F4 := Lib.hid (F3.out.trans f4); have HR4 := Lib.hid (HR3.out.fr f4 (by simp)); clear f4 hDP hcP)
      | (go_at_call 9; (refine (HGC.out w4 F4.out).mono ?_); rintro e w5 ⟨AG, cG, rfl, hcG, hDG, _, f5⟩; have HDG := Lib.hid hDG; have HcG := Lib.hid hcG; have F5 := Lib.hid (F4.out.trans f5); have HR5 := Lib.hid (HR4.out.fr f5 (by simp)); have HDP5 := Lib.hid (HDP.out.fr f5); clear f5 hDG hcG))
    have HCR := Lib.hid (fun w9 (h9 : OldW w5 w9) => rd_row (HR5.out.fr h9 (by simp)))
    have hS5 : OldW w5 w5.drew := (Fr.refl [] w5).drew
    refine sqo_begin (w0 := w5) (by kernel_rfl) ?_
    refine sqo_take (i := 0) (v := (.agg (u8s (rootF l)).toArray)) (d := 31) rfl (by kernel_rfl) (by kernel_rfl) (by kernel_rfl) (by kernel_rfl) (by kernel_rfl) (fun _ _ _ h => h) ?_ (by assumption) ?_
    · intro w9 h9; exact exec_load_agg rfl w2.heap.size 0 (by kernel_rfl) (u8s (rootF l)) _ (HCR.out w9 h9) Try.underlying25 rfl HRF.out.2.1
    try simp only [Act.put, List.setIfInBounds_toArray, List.set_cons_zero, List.set_cons_succ]
    refine sqo_take (i := 1) (v := (.slice A n c)) (d := 32) rfl (by kernel_rfl) (by kernel_rfl) (by kernel_rfl) (by kernel_rfl) (by kernel_rfl) (fun _ _ _ h => h) ?_ (by assumption) ?_
    · intro w9 h9; kernel_rfl
    try simp only [Act.put, List.setIfInBounds_toArray, List.set_cons_zero, List.set_cons_succ]
    refine sqo_only (i := 2) rfl (by kernel_rfl) (by kernel_rfl) ?_
    have hr2 := fun (a₀ : Act) (o₀ : Oper) (K₀ : Act → World → Prop) (Q₀ : Exit → Act → World → Prop) => @sq_call Try.prog Q₀ a₀ o₀ w5.drew K₀ (Agg (.agg (u8s (rootF l)).toArray) w5.drew) 10 #[.slice A n c] 33
    refine hr2 _ _ _ _ ?_ ?_ ?_ ?_
    · kernel_rfl
    · kernel_rfl
    · exact (rroot_calls n w5.drew A n c l (Nat.le_refl _) HN.out HCC.out (by omega) (HD.out w5.drew (F5.out.trans hS5)))
    rintro e w6 ⟨rfl, f9⟩
    have hS6 := OldW.step hS5 f9
    clear f9
    refine ⟨_, rfl, hS6, ?_⟩
    clear hr2
    try simp only [Act.put, List.setIfInBounds_toArray, List.set_cons_zero, List.set_cons_succ]
    refine sqo_take (i := 3) (v := (.bool false)) (d := 34) rfl (by kernel_rfl) (by kernel_rfl) (by kernel_rfl) (by kernel_rfl) (by kernel_rfl) (fun _ _ _ h => h) ?_ (by assumption) ?_
    · intro w9 h9; exact ex_neq_digB w9 rfl (rootF l) (rootF l) (by kernel_rfl) (by kernel_rfl) (rootF_length _) (rootF_length _) (by simp)
    try simp only [Act.put, List.setIfInBounds_toArray, List.set_cons_zero, List.set_cons_succ]
    refine wpAnyH_done (by kernel_rfl) ?_ _
    go_wp2_with fail
    have HSG := Lib.hid (fun w8 (h8 : OldW w5 w8) AQ cQ (hQ : DgIn w8 AQ G) => (show Calls Try.prog 11 #[.slice AG nG cG, .slice AQ nG cQ] w8 (SameP w8 true) from by
        have := same_calls w8 AG nG cG G HNG.out (HDG.out.fr h8) AQ nG cQ G HNG.out hQ (by have := HG7.out; omega) (by have := HG7.out; omega)
        rwa [beq_self_eq_true] at this))
    have HGW := Lib.hid (fun w8 (h8 : OldW w5 w8) => (show Calls Try.prog 14 #[.agg (u8s (rootF (l.take m))).toArray, .int .i64 (m : Int), .agg (u8s (rootF l)).toArray, .int .i64 (n : Int), .slice AG nG cG] w8 (Agg (.bool true) w8) from by
        have := Grows_calls w8 (rootF (l.take m)) (rootF l) (rootF_length _) (rootF_length _) (m : Int) (n : Int) AG nG cG G HNG.out HcG.out (HDG.out.fr h8) (by have := HG7.out; omega)
        rwa [HGRB.out] at this))
    have HRG := Lib.hid (fun w8 (h8 : OldW w5 w8) => HRG0.out w8 (F5.out.trans h8)); have HRM := Lib.hid (fun w8 (h8 : OldW w5 w8) => HRM0.out w8 (F5.out.trans h8))
    have hT0 : OldW w6 w6.drew := (Fr.refl [] w6).drew
    refine sqo_begin (w0 := w6) (by kernel_rfl) ?_
    refine sqo_take (i := 0) (v := (.int .i64 0)) (d := 110) rfl (by kernel_rfl) (by kernel_rfl) (by kernel_rfl) (by kernel_rfl) (by kernel_rfl) (fun _ _ _ h => h) ?_ (by assumption) ?_
    · intro w9 h9; kernel_rfl
    try simp only [Act.put, List.setIfInBounds_toArray, List.set_cons_zero, List.set_cons_succ]
    refine sqo_take (i := 1) (v := (.bool true)) (d := 111) rfl (by kernel_rfl) (by kernel_rfl) (by kernel_rfl) (by kernel_rfl) (by kernel_rfl) (fun _ _ _ h => h) ?_ (by assumption) ?_
    · intro w9 h9; kernel_rfl
    try simp only [Act.put, List.setIfInBounds_toArray, List.set_cons_zero, List.set_cons_succ]
    refine sqo_take (i := 2) (v := (.bool true)) (d := 112) rfl (by kernel_rfl) (by kernel_rfl) (by kernel_rfl) (by kernel_rfl) (by kernel_rfl) (fun _ _ _ h => h) ?_ (by assumption) ?_
    · intro w9 h9; kernel_rfl
    try simp only [Act.put, List.setIfInBounds_toArray, List.set_cons_zero, List.set_cons_succ]
    refine sqo_take (i := 3) (v := (.slice AG nG cG)) (d := 113) rfl (by kernel_rfl) (by kernel_rfl) (by kernel_rfl) (by kernel_rfl) (by kernel_rfl) (fun _ _ _ h => h) ?_ (by assumption) ?_
    · intro w9 h9; kernel_rfl
    try simp only [Act.put, List.setIfInBounds_toArray, List.set_cons_zero, List.set_cons_succ]
    refine sqo_take (i := 4) (v := (.slice A n c)) (d := 114) rfl (by kernel_rfl) (by kernel_rfl) (by kernel_rfl) (by kernel_rfl) (by kernel_rfl) (fun _ _ _ h => h) ?_ (by assumption) ?_
    · intro w9 h9; kernel_rfl
    try simp only [Act.put, List.setIfInBounds_toArray, List.set_cons_zero, List.set_cons_succ]
    refine sqo_take (i := 5) (v := (.int .i64 (m : Int))) (d := 115) rfl (by kernel_rfl) (by kernel_rfl) (by kernel_rfl) (by kernel_rfl) (by kernel_rfl) (fun _ _ _ h => h) ?_ (by assumption) ?_
    · intro w9 h9; kernel_rfl
    try simp only [Act.put, List.setIfInBounds_toArray, List.set_cons_zero, List.set_cons_succ]
    refine sqo_only (i := 6) rfl (by kernel_rfl) (by kernel_rfl) ?_
    have hr6 := fun (a₀ : Act) (o₀ : Oper) (K₀ : Act → World → Prop) (Q₀ : Exit → Act → World → Prop) => @sq_call Try.prog Q₀ a₀ o₀ w6.drew K₀ (OwnD1 w6.drew G nG) 15 #[.slice A n c, .int .i64 (m : Int), .bool true] 116
    refine hr6 _ _ _ _ ?_ ?_ ?_ ?_
    · kernel_rfl
    · kernel_rfl
    · exact (HRG.out w6.drew (OldW.step hS6 hT0))
    rintro e w11 ⟨AR, cR, rfl, hDR, f9⟩
    have HDR := Lib.hid hDR
    have hT1 := OldW.step hT0 f9
    clear f9 hDR
    refine ⟨_, rfl, hT1, ?_⟩
    clear hr6
    try simp only [Act.put, List.setIfInBounds_toArray, List.set_cons_zero, List.set_cons_succ]
    refine sqo_only (i := 7) rfl (by kernel_rfl) (by kernel_rfl) ?_
    have hr7 := fun (a₀ : Act) (o₀ : Oper) (K₀ : Act → World → Prop) (Q₀ : Exit → Act → World → Prop) => @sq_call Try.prog Q₀ a₀ o₀ w11 K₀ (SameP w11 true) 11 #[.slice AG nG cG, .slice AR nG cR] 117
    refine hr7 _ _ _ _ ?_ ?_ ?_ ?_
    · kernel_rfl
    · kernel_rfl
    · exact (HSG.out w11 (OldW.step hS6 hT1) AR cR HDR.out)
    rintro e w12 ⟨rfl, f9⟩
    have hT2 := OldW.step hT1 f9
    clear f9
    refine ⟨_, rfl, hT2, ?_⟩
    clear hr7
    try simp only [Act.put, List.setIfInBounds_toArray, List.set_cons_zero, List.set_cons_succ]
    refine sqo_take (i := 8) (v := (.bool true)) (d := 118) rfl (by kernel_rfl) (by kernel_rfl) (by kernel_rfl) (by kernel_rfl) (by kernel_rfl) (fun _ _ _ h => h) ?_ (by assumption) ?_
    · intro w9 h9; kernel_rfl
    try simp only [Act.put, List.setIfInBounds_toArray, List.set_cons_zero, List.set_cons_succ]
    refine sqo_take (i := 9) (v := (.bool true)) (d := 119) rfl (by kernel_rfl) (by kernel_rfl) (by kernel_rfl) (by kernel_rfl) (by kernel_rfl) (fun _ _ _ h => h) ?_ (by assumption) ?_
    · intro w9 h9; kernel_rfl
    try simp only [Act.put, List.setIfInBounds_toArray, List.set_cons_zero, List.set_cons_succ]
    refine sqo_take (i := 10) (v := (.slice A n c)) (d := 120) rfl (by kernel_rfl) (by kernel_rfl) (by kernel_rfl) (by kernel_rfl) (by kernel_rfl) (fun _ _ _ h => h) ?_ (by assumption) ?_
    · intro w9 h9; kernel_rfl
    try simp only [Act.put, List.setIfInBounds_toArray, List.set_cons_zero, List.set_cons_succ]
    refine sqo_take (i := 11) (v := (.int .i64 (m : Int))) (d := 121) rfl (by kernel_rfl) (by kernel_rfl) (by kernel_rfl) (by kernel_rfl) (by kernel_rfl) (fun _ _ _ h => h) ?_ (by assumption) ?_
    · intro w9 h9; kernel_rfl
    try simp only [Act.put, List.setIfInBounds_toArray, List.set_cons_zero, List.set_cons_succ]
    refine sqo_take (i := 12) (v := (.slice A m c)) (d := 122) rfl (by kernel_rfl) (by kernel_rfl) (by kernel_rfl) (by kernel_rfl) (by kernel_rfl) (fun _ _ _ h => h) ?_ (by assumption) ?_
    · intro w9 h9; go_simp; omega
    try simp only [Act.put, List.setIfInBounds_toArray, List.set_cons_zero, List.set_cons_succ]
    refine sqo_take (i := 14) (v := (.int .i64 (m : Int))) (d := 124) rfl (by kernel_rfl) (by kernel_rfl) (by kernel_rfl) (by kernel_rfl) (by kernel_rfl) (fun _ _ _ h => h) ?_ (by assumption) ?_
    · intro w9 h9; kernel_rfl
    try simp only [Act.put, List.setIfInBounds_toArray, List.set_cons_zero, List.set_cons_succ]
    refine sqo_take (i := 15) (v := (.agg (u8s (rootF l)).toArray)) (d := 125) rfl (by kernel_rfl) (by kernel_rfl) (by kernel_rfl) (by kernel_rfl) (by kernel_rfl) (fun _ _ _ h => h) ?_ (by assumption) ?_
    · intro w9 h9; exact exec_load_agg rfl w2.heap.size 0 (by kernel_rfl) (u8s (rootF l)) _ (HCR.out w9 (OldW.step hS6 h9)) Try.underlying25 rfl HRF.out.2.1
    try simp only [Act.put, List.setIfInBounds_toArray, List.set_cons_zero, List.set_cons_succ]
    refine sqo_take (i := 16) (v := (.slice A n c)) (d := 126) rfl (by kernel_rfl) (by kernel_rfl) (by kernel_rfl) (by kernel_rfl) (by kernel_rfl) (fun _ _ _ h => h) ?_ (by assumption) ?_
    · intro w9 h9; kernel_rfl
    try simp only [Act.put, List.setIfInBounds_toArray, List.set_cons_zero, List.set_cons_succ]
    refine sqo_take (i := 17) (v := (.int .i64 (n : Int))) (d := 127) rfl (by kernel_rfl) (by kernel_rfl) (by kernel_rfl) (by kernel_rfl) (by kernel_rfl) (fun _ _ _ h => h) ?_ (by assumption) ?_
    · intro w9 h9; kernel_rfl
    try simp only [Act.put, List.setIfInBounds_toArray, List.set_cons_zero, List.set_cons_succ]
    refine sqo_take (i := 18) (v := (.slice AG nG cG)) (d := 128) rfl (by kernel_rfl) (by kernel_rfl) (by kernel_rfl) (by kernel_rfl) (by kernel_rfl) (fun _ _ _ h => h) ?_ (by assumption) ?_
    · intro w9 h9; kernel_rfl
    try simp only [Act.put, List.setIfInBounds_toArray, List.set_cons_zero, List.set_cons_succ]
    refine sqo_only (i := 13) rfl (by kernel_rfl) (by kernel_rfl) ?_
    have hr13 := fun (a₀ : Act) (o₀ : Oper) (K₀ : Act → World → Prop) (Q₀ : Exit → Act → World → Prop) => @sq_call Try.prog Q₀ a₀ o₀ w12 K₀ (Agg (.agg (u8s (rootF (l.take m))).toArray) w12) 7 #[.slice A m c] 123
    refine hr13 _ _ _ _ ?_ ?_ ?_ ?_
    · kernel_rfl
    · kernel_rfl
    · exact (HRM.out w12 (OldW.step hS6 hT2))
    rintro e w13 ⟨rfl, f9⟩
    have hT3 := OldW.step hT2 f9
    clear f9
    refine ⟨_, rfl, hT3, ?_⟩
    clear hr13
    try simp only [Act.put, List.setIfInBounds_toArray, List.set_cons_zero, List.set_cons_succ]
    refine sqo_only (i := 19) rfl (by kernel_rfl) (by kernel_rfl) ?_
    have hr19 := fun (a₀ : Act) (o₀ : Oper) (K₀ : Act → World → Prop) (Q₀ : Exit → Act → World → Prop) => @sq_call Try.prog Q₀ a₀ o₀ w13 K₀ (Agg (.bool true) w13) 14 #[.agg (u8s (rootF (l.take m))).toArray, .int .i64 (m : Int), .agg (u8s (rootF l)).toArray, .int .i64 (n : Int), .slice AG nG cG] 129
    refine hr19 _ _ _ _ ?_ ?_ ?_ ?_
    · kernel_rfl
    · kernel_rfl
    · exact (HGW.out w13 (OldW.step hS6 hT3))
    rintro e w14 ⟨rfl, f9⟩
    have hT4 := OldW.step hT3 f9
    clear f9
    refine ⟨_, rfl, hT4, ?_⟩
    clear hr19
    try simp only [Act.put, List.setIfInBounds_toArray, List.set_cons_zero, List.set_cons_succ]
    refine sqo_take (i := 20) (v := (.bool true)) (d := 130) rfl (by kernel_rfl) (by kernel_rfl) (by kernel_rfl) (by kernel_rfl) (by kernel_rfl) (fun _ _ _ h => h) ?_ (by assumption) ?_
    · intro w9 h9; kernel_rfl
    try simp only [Act.put, List.setIfInBounds_toArray, List.set_cons_zero, List.set_cons_succ]
    refine sqo_take (i := 21) (v := (.bool true)) (d := 131) rfl (by kernel_rfl) (by kernel_rfl) (by kernel_rfl) (by kernel_rfl) (by kernel_rfl) (fun _ _ _ h => h) ?_ (by assumption) ?_
    · intro w9 h9; kernel_rfl
    try simp only [Act.put, List.setIfInBounds_toArray, List.set_cons_zero, List.set_cons_succ]
    refine sqo_take (i := 22) (v := (.slice AG nG cG)) (d := 132) rfl (by kernel_rfl) (by kernel_rfl) (by kernel_rfl) (by kernel_rfl) (by kernel_rfl) (fun _ _ _ h => h) ?_ (by assumption) ?_
    · intro w9 h9; kernel_rfl
    try simp only [Act.put, List.setIfInBounds_toArray, List.set_cons_zero, List.set_cons_succ]
    refine sqo_take (i := 23) (v := (.int .i64 (nG : Int))) (d := 133) rfl (by kernel_rfl) (by kernel_rfl) (by kernel_rfl) (by kernel_rfl) (by kernel_rfl) (fun _ _ _ h => h) ?_ (by assumption) ?_
    · intro w9 h9; kernel_rfl
    try simp only [Act.put, List.setIfInBounds_toArray, List.set_cons_zero, List.set_cons_succ]
    refine sqo_take (i := 24) (v := (.bool (decide ((nG : Int) ≤ 7)))) (d := 134) rfl (by kernel_rfl) (by kernel_rfl) (by kernel_rfl) (by kernel_rfl) (by kernel_rfl) (fun _ _ _ h => h) ?_ (by assumption) ?_
    · intro w9 h9; kernel_rfl
    try simp only [Act.put, List.setIfInBounds_toArray, List.set_cons_zero, List.set_cons_succ]
    refine sqo_take (i := 25) (v := (.bool (decide ((nG : Int) ≤ 7)))) (d := 135) rfl (by kernel_rfl) (by kernel_rfl) (by kernel_rfl) (by kernel_rfl) (by kernel_rfl) (fun _ _ _ h => h) ?_ (by assumption) ?_
    · intro w9 h9; kernel_rfl
    try simp only [Act.put, List.setIfInBounds_toArray, List.set_cons_zero, List.set_cons_succ]
    refine sqo_take (i := 26) (v := (.bool (decide ((nG : Int) ≤ 7)))) (d := 6) rfl (by kernel_rfl) (by kernel_rfl) (by kernel_rfl) (by kernel_rfl) (by kernel_rfl) (fun _ _ _ h => h) ?_ (by assumption) ?_
    · intro w9 h9; kernel_rfl
    try simp only [Act.put, List.setIfInBounds_toArray, List.set_cons_zero, List.set_cons_succ]
    refine wpAnyH_done (by kernel_rfl) ?_ _
    go_wp2_with fail
    go_ret
    have h7 : decide ((nG : Int) ≤ 7) = true := decide_eq_true (by have := HG7.out; omega)
    rw [h7]
    exact ⟨rfl, F5.out.trans (OldW.step hS6 hT4)⟩
end Go.Proofs.Ytmgbimdebhhckaa
