/- The walk of HistoryTurned, case C. -/
import Derived.Test.YtmgbimdebhhckaaHistY
import Derived.Test.YtmgbimdebhhckaaHistV
namespace Go.Proofs.Ytmgbimdebhhckaa
open Go.RowKit
set_option linter.unusedVariables false
set_option maxHeartbeats 8000000 in
set_option maxRecDepth 100000 in
theorem turned_C (w : World) (A : Option Addr) (n c : Nat) (l : List (List UInt8)) (hn : l.length = n) (hc : n ≤ c) (hD : DgIn w A l) (h30 : n ≤ 30) (i m : Int) (x : List UInt8) (hx : x.length = 32) (a : Int) (ha : 0 ≤ a ∧ a ≤ 255) (k : Nat) (hk : wrap64 ((IntKind.u64.wrap i).tmod (n : Int)) = (k : Int)) (hkn : k < n)
    (lk : List UInt8) (hlk : l[k]? = some lk) (P : List (List UInt8)) (hP : pathF l k = P) (hxl : (x == lk) = false) (hin : inB (rootF l) (n : Int) (k : Int) x P = true) :
    Calls Try.prog 4 #[.slice A n c, .int .i64 i, .int .i64 m, .agg (u8s x).toArray, .int .u8 a] w (AliveR w) := by
  have HAL := Lib.hid (fun w => alive18_calls w)
  have HRT := Lib.hid (fun w2 (f2 : Fr [] w w2) => root_calls n w2 A n c l (Nat.le_refl _) hn hc (by omega) (hD.fr f2))
  have HRF := Lib.hid (digF (rootF l) (rootF_length _)); have HXF := Lib.hid (digF x hx); have HX32 := Lib.hid hx
  have hPC := fun w2 (f2 : Fr [] w w2) => (Path_calls w2 A n c (k : Int) l hn hc (by omega) (hD.fr f2)).mono fun e w' h => OwnD2.to3 (r := pathF l k) (er := 0) (n := (pathF l k).length) rfl (by rw [show pathR l (k : Int) = (pathF l k, 0) from by unfold pathR; rw [if_neg (by omega)]; rfl] at h; exact h)
  have hP5 := pathF_log l k 5 (by omega) (by omega)
  have hPA := pathF_all l k
  have hINB := inB_complete l n k lk hn hkn (by omega) hlk
  rw [hP] at hPC hP5 hPA hINB
  obtain ⟨nP, hnP⟩ : ∃ q, P.length = q := ⟨_, rfl⟩
  rw [hnP] at hPC hP5
  have HPA := Lib.hid hPA; have HINB := Lib.hid hINB
  obtain ⟨hl32, bA, oA, hA, hbA, hcA⟩ := hD k lk hlk
  have HCL := Lib.hid (fun w8 (h8 : Fr [] w w8) => (fun j v hv => by rw [h8.cell (p := ⟨bA, oA + k * 32 + j, none⟩) hbA (by simp)]; exact hcA j v hv : ∀ j v, (u8s lk)[j]? = some v → w8.cell? ⟨bA, oA + k * 32 + j, none⟩ = some v))
  have HL32 := Lib.hid hl32; have HLF := Lib.hid (digF lk hl32)
  have HIX := Lib.hid (fun w9 => run_index_slice' (P := Try.prog) (t := 22) (size := 32) w9 Try.underlying22 dg_size (A := A) (n := n) (c := c) (j := k) hA hkn)
  have HNE := Lib.hid (show (!(x == lk)) = !false by rw [hxl])
  have HKK := Lib.hid hk
  have hI : (1 : Int) ≤ (n : Int) ∧ (n : Int) ≤ 30 ∧ (0 : Int) ≤ (k : Int) ∧ (k : Int) < (n : Int) := by omega
  have HIN := Lib.hid hin
  have HCL := HCL
  have HCLc := Lib.hid (turned_clash (rootF l) lk x n k P P hl32 hx hPA hPA hINB hin (fun h => by rw [h.1] at hxl; simp at hxl))
  have hl1 := ppN_length (n : Int) (k : Int) lk P; have hl2 := ppN_length (n : Int) (k : Int) x P
  have ht1 := ppN_texts (n : Int) (k : Int) lk P hl32 hPA; have ht2 := ppN_texts (n : Int) (k : Int) x P hx hPA
  have HLEN := Lib.hid (show (ppN (n : Int) (k : Int) lk P).length + (ppN (n : Int) (k : Int) x P).length ≤ 100000 by omega)
  have HLEN2 := Lib.hid (show (ppN (n : Int) (k : Int) lk P).length + (ppN (n : Int) (k : Int) x P).length ≤ 10000 by omega)
  have HTX := Lib.hid (show ∀ t ∈ ppN (n : Int) (k : Int) lk P ++ ppN (n : Int) (k : Int) x P, t.length ≤ 1000 from fun t ht => by
    rw [List.mem_append] at ht
    rcases ht with ht | ht
    · exact ht1 t ht
    · exact ht2 t ht)
  by_cases hq0 : nP = 0
  · subst hq0
    have HPC := Lib.hid hPC; have HNP := Lib.hid hnP; have HP5 := Lib.hid hP5; have HP1 := Lib.hid (show 0 ≤ 1000 by omega)
    clear hPC hnP hP5 hPA hINB hl1 hl2 ht1 ht2 hl32 hA hbA hcA hk hlk hP hxl hx hkn hn hc hD h30 hin
    go_enter Try.func4, Try.ntmps4
    go_wp2_with (first
      | go_big_skip
      | (refine box_agg rfl 25 (.tmp 3) rfl (u8s x).toArray rfl ?_; obtain ⟨w1, hw1⟩ : ∃ W, w.alloc (.cells (u8s x).toArray 25) = W := ⟨_, rfl⟩; rw [hw1]; have F1 := Lib.hid (show Fr [] w w1 from hw1 ▸ (Fr.refl [] w).alloc _); have HX1 := Lib.hid (show Blk w1 w.heap.size 25 (u8s x).toArray from hw1 ▸ Blk.new w _ _); clear hw1)
      | (go_at_call 6; (with_reducible refine (HAL.out w1).mono ?_); rintro e w2 ⟨rfl, f2⟩; have F2 := Lib.hid (F1.out.trans f2); have HX2 := Lib.hid (HX1.out.fr f2 (by simp)); clear f2))
    rw [HKK.out]
    go_wp2_with (first
      | (go_at_call 7; (refine (HRT.out w2 F2.out).mono ?_); rintro e w3 ⟨rfl, f3⟩; have F3 := Lib.hid (F2.out.trans f3); have HX3 := Lib.hid (HX2.out.fr f3 (by simp)); clear f3)
      | (refine wpList_alloc_agg rfl 25 rfl (zs 32).toArray arr32_zero ?_)
      | (refine wpList_store_agg rfl 25 (.tmp 12) (.tmp 36) rfl w3.heap.size 0 rfl (u8s (rootF l)) rfl (zs 32) 25 (Blk.new w3 _ _) HRF.out.1 (u8s_one _) HRF.out.2.1 ?_; rw [HRF.out.2.2]; obtain ⟨w4, hw4⟩ : ∃ W, (w3.alloc (.cells (zs 32).toArray 25)).setRow w3.heap.size (u8s (rootF l)).toArray = W := ⟨_, rfl⟩; rw [hw4];
          have f4 := (show Fr [] w3 w4 from hw4 ▸ ((Fr.refl [] w3).alloc _).setRow (.inr (Nat.le_refl _)) _); have F4 := Lib.hid (F3.out.trans f4); have HR4 := Lib.hid (show Blk w4 w3.heap.size 25 (u8s (rootF l)).toArray from hw4 ▸ (Blk.new w3 _ _).setRow_ _); have HX4 := Lib.hid (HX3.out.fr f4 (by simp)); clear hw4 f4)
      | (go_at_call 8; (refine (HPC.out w4 F4.out).mono ?_); rintro e w5 ⟨AP, cP, rfl, hcP, hDP, _, f5⟩; have HDP := Lib.hid hDP; have HcP := Lib.hid hcP; have F5 := Lib.hid (F4.out.trans f5); have HR5 := Lib.hid (HR4.out.fr f5 (by simp)); have HX5 := Lib.hid (HX4.out.fr f5 (by simp)); clear f5 hDP hcP)
      | (refine wpList_wanted (v := .slice (some ⟨w5.heap.size, 0, none⟩) 0 0) (by kernel_rfl) (ex_build_dg0 rfl w5) ?_; obtain ⟨w6, hw6⟩ : ∃ W, w5.alloc (.cells #[] 25) = W := ⟨_, rfl⟩; rw [hw6]; have F56 := Lib.hid (show Fr [] w5 w6 from hw6 ▸ (Fr.refl [] w5).alloc _); have HQ6 := Lib.hid (show w6.ownsRow w5.heap.size 25 32 (.slice (some ⟨w5.heap.size, 0, none⟩) 0 0) ([] : List (List UInt8)).length (([] : List (List UInt8)).flatMap u8s) from hw6 ▸ own_dg0 w5); clear hw6)
      | (at_builtin; refine wpList_appDgs rfl (.tmp 43) (.tmp 44) 45 rfl rfl w5.heap.size (.slice (some ⟨w5.heap.size, 0, none⟩) 0 0) rfl HQ6.out P HPA.out AP 0 cP HNP.out rfl (HDP.out.fr F56.out) (by have := HNP.out; have := HP5.out; omega) F56.out.size ?_; intro vq w7 hq7 f7; have F57 := Lib.hid (Fr.trans' F56.out f7 (fun y hy => .inr (by simp [Value.ownBlock] at hy; omega)));
          obtain ⟨Aq, cq, rfl⟩ := own_slice hq7;
          have F07 := Lib.hid (F5.out.trans F57.out); have HX7 := Lib.hid (HX5.out.fr F57.out (by simp)); have HR7 := Lib.hid (HR5.out.fr F57.out (by simp)); have HDP7 := Lib.hid (HDP.out.fr F57.out); have HPP1 := Lib.hid (pp_calls w7 [] (by simp) (n : Int) (k : Int) lk HL32.out AP 0 cP P HNP.out HcP.out HDP7.out HP1.out); clear f7 hq7)
      | (refine wpList_wanted (v := .pointer (some ⟨bA, oA + k * 32, none⟩)) (by kernel_rfl) (ex_ixa rfl rfl rfl (HIX.out w7)) ?_)
      | (refine wpList_wanted (v := .agg (u8s lk).toArray) (by kernel_rfl) (exec_load_agg (ty := 25) (x := .tmp 51) rfl bA (oA + k * 32) rfl (u8s lk) _ (HCL.out w7 F07.out) Try.underlying25 rfl HLF.out.2.1) ?_)
      | (go_at_call 16; (refine HPP1.out.mono ?_); rintro e w8 ⟨v1, rfl, ht8, f8⟩; have HT8 := Lib.hid ht8; have F8 := Lib.hid f8; clear ht8 f8))
    have HXr := Lib.hid (fun w9 (h9 : OldW w7 w9) => rd_row (HX7.out.fr h9 (by simp))); have HRr := Lib.hid (fun w9 (h9 : OldW w7 w9) => rd_row (HR7.out.fr h9 (by simp))); have HLr := Lib.hid (fun w9 (h9 : OldW w7 w9) => HCL.out w9 (F07.out.trans h9))
    have hS8 : OldW w7 w8.drew := F8.out.trans (Fr.refl [] w8).drew
    have HT9 := Lib.hid (HT8.out.frD (Fr.refl [] w8).drew)
    have HIN1 := Lib.hid (show Calls Try.prog 13 #[.agg (u8s (rootF l)).toArray, .int .i64 (n : Int), .int .i64 (k : Int), .agg (u8s x).toArray, .slice AP 0 cP] w8.drew (Agg (.bool true) w8.drew) from by
      have := InPath_calls w8.drew (rootF l) (rootF_length _) (n : Int) (k : Int) x HX32.out AP _ cP P HNP.out HcP.out (HDP7.out.fr hS8) HP1.out
      rwa [HIN.out] at this)
    refine sqo_begin (w0 := w7) (by kernel_rfl) ?_
    refine sqo_take (i := 0) (v := (.agg (u8s x).toArray)) (d := 55) rfl (by kernel_rfl) (by kernel_rfl) (by kernel_rfl) (by kernel_rfl) (by kernel_rfl) (fun _ _ _ h => h) ?_ (by assumption) ?_
    · intro w9 h9; exact exec_load_agg rfl w.heap.size 0 (by kernel_rfl) (u8s x) _ (HXr.out w9 h9) Try.underlying25 rfl HXF.out.2.1
    try simp only [Act.put, List.setIfInBounds_toArray, List.set_cons_zero, List.set_cons_succ]
    refine sqo_take (i := 1) (v := (.slice A n c)) (d := 56) rfl (by kernel_rfl) (by kernel_rfl) (by kernel_rfl) (by kernel_rfl) (by kernel_rfl) (fun _ _ _ h => h) ?_ (by assumption) ?_
    · intro w9 h9; kernel_rfl
    try simp only [Act.put, List.setIfInBounds_toArray, List.set_cons_zero, List.set_cons_succ]
    refine sqo_take (i := 2) (v := (.int .i64 (k : Int))) (d := 57) rfl (by kernel_rfl) (by kernel_rfl) (by kernel_rfl) (by kernel_rfl) (by kernel_rfl) (fun _ _ _ h => h) ?_ (by assumption) ?_
    · intro w9 h9; kernel_rfl
    try simp only [Act.put, List.setIfInBounds_toArray, List.set_cons_zero, List.set_cons_succ]
    refine sqo_take (i := 3) (v := (.pointer (some ⟨bA, oA + k * 32, none⟩))) (d := 58) rfl (by kernel_rfl) (by kernel_rfl) (by kernel_rfl) (by kernel_rfl) (by kernel_rfl) (fun _ _ _ h => h) ?_ (by assumption) ?_
    · intro w9 h9; exact ex_ixa rfl (by kernel_rfl) (by kernel_rfl) (HIX.out w9)
    try simp only [Act.put, List.setIfInBounds_toArray, List.set_cons_zero, List.set_cons_succ]
    refine sqo_take (i := 4) (v := (.agg (u8s lk).toArray)) (d := 59) rfl (by kernel_rfl) (by kernel_rfl) (by kernel_rfl) (by kernel_rfl) (by kernel_rfl) (fun _ _ _ h => h) ?_ (by assumption) ?_
    · intro w9 h9; exact exec_load_agg rfl bA (oA + k * 32) (by kernel_rfl) (u8s lk) _ (HLr.out w9 h9) Try.underlying25 rfl HLF.out.2.1
    try simp only [Act.put, List.setIfInBounds_toArray, List.set_cons_zero, List.set_cons_succ]
    refine sqo_take (i := 5) (v := (.bool true)) (d := 60) rfl (by kernel_rfl) (by kernel_rfl) (by kernel_rfl) (by kernel_rfl) (by kernel_rfl) (fun _ _ _ h => h) ?_ (by assumption) ?_
    · intro w9 h9; exact ex_neq_digB w9 rfl x lk (by kernel_rfl) (by kernel_rfl) HX32.out HL32.out HNE.out
    try simp only [Act.put, List.setIfInBounds_toArray, List.set_cons_zero, List.set_cons_succ]
    refine sqo_take (i := 6) (v := (.bool true)) (d := 61) rfl (by kernel_rfl) (by kernel_rfl) (by kernel_rfl) (by kernel_rfl) (by kernel_rfl) (fun _ _ _ h => h) ?_ (by assumption) ?_
    · intro w9 h9; kernel_rfl
    try simp only [Act.put, List.setIfInBounds_toArray, List.set_cons_zero, List.set_cons_succ]
    refine sqo_take (i := 7) (v := (.agg (u8s (rootF l)).toArray)) (d := 62) rfl (by kernel_rfl) (by kernel_rfl) (by kernel_rfl) (by kernel_rfl) (by kernel_rfl) (fun _ _ _ h => h) ?_ (by assumption) ?_
    · intro w9 h9; exact exec_load_agg rfl w3.heap.size 0 (by kernel_rfl) (u8s (rootF l)) _ (HRr.out w9 h9) Try.underlying25 rfl HRF.out.2.1
    try simp only [Act.put, List.setIfInBounds_toArray, List.set_cons_zero, List.set_cons_succ]
    refine sqo_take (i := 8) (v := (.slice A n c)) (d := 63) rfl (by kernel_rfl) (by kernel_rfl) (by kernel_rfl) (by kernel_rfl) (by kernel_rfl) (fun _ _ _ h => h) ?_ (by assumption) ?_
    · intro w9 h9; kernel_rfl
    try simp only [Act.put, List.setIfInBounds_toArray, List.set_cons_zero, List.set_cons_succ]
    refine sqo_take (i := 9) (v := (.int .i64 (n : Int))) (d := 64) rfl (by kernel_rfl) (by kernel_rfl) (by kernel_rfl) (by kernel_rfl) (by kernel_rfl) (fun _ _ _ h => h) ?_ (by assumption) ?_
    · intro w9 h9; kernel_rfl
    try simp only [Act.put, List.setIfInBounds_toArray, List.set_cons_zero, List.set_cons_succ]
    refine sqo_take (i := 10) (v := (.int .i64 (k : Int))) (d := 65) rfl (by kernel_rfl) (by kernel_rfl) (by kernel_rfl) (by kernel_rfl) (by kernel_rfl) (fun _ _ _ h => h) ?_ (by assumption) ?_
    · intro w9 h9; kernel_rfl
    try simp only [Act.put, List.setIfInBounds_toArray, List.set_cons_zero, List.set_cons_succ]
    refine sqo_take (i := 11) (v := (.agg (u8s x).toArray)) (d := 66) rfl (by kernel_rfl) (by kernel_rfl) (by kernel_rfl) (by kernel_rfl) (by kernel_rfl) (fun _ _ _ h => h) ?_ (by assumption) ?_
    · intro w9 h9; exact exec_load_agg rfl w.heap.size 0 (by kernel_rfl) (u8s x) _ (HXr.out w9 h9) Try.underlying25 rfl HXF.out.2.1
    try simp only [Act.put, List.setIfInBounds_toArray, List.set_cons_zero, List.set_cons_succ]
    refine sqo_take (i := 12) (v := (.slice AP 0 cP)) (d := 67) rfl (by kernel_rfl) (by kernel_rfl) (by kernel_rfl) (by kernel_rfl) (by kernel_rfl) (fun _ _ _ h => h) ?_ (by assumption) ?_
    · intro w9 h9; kernel_rfl
    try simp only [Act.put, List.setIfInBounds_toArray, List.set_cons_zero, List.set_cons_succ]
    refine sqo_only (i := 13) rfl (by kernel_rfl) (by kernel_rfl) ?_
    have hr13 := fun (a₀ : Act) (o₀ : Oper) (K₀ : Act → World → Prop) (Q₀ : Exit → Act → World → Prop) => @sq_call Try.prog Q₀ a₀ o₀ w8.drew K₀ (Agg (.bool true) w8.drew) 13 #[.agg (u8s (rootF l)).toArray, .int .i64 (n : Int), .int .i64 (k : Int), .agg (u8s x).toArray, .slice AP 0 cP] 68
    refine hr13 _ _ _ _ ?_ ?_ ?_ ?_
    · kernel_rfl
    · kernel_rfl
    · exact HIN1.out
    rintro e w10 ⟨rfl, f9⟩
    have hS10 := OldW.step hS8 f9
    have HT10 := Lib.hid (HT9.out.frD f9)
    clear f9
    refine ⟨_, rfl, hS10, ?_⟩
    clear hr13
    try simp only [Act.put, List.setIfInBounds_toArray, List.set_cons_zero, List.set_cons_succ]
    refine sqo_take (i := 14) (v := (.bool true)) (d := 69) rfl (by kernel_rfl) (by kernel_rfl) (by kernel_rfl) (by kernel_rfl) (by kernel_rfl) (fun _ _ _ h => h) ?_ (by assumption) ?_
    · intro w9 h9; kernel_rfl
    try simp only [Act.put, List.setIfInBounds_toArray, List.set_cons_zero, List.set_cons_succ]
    refine sqo_take (i := 15) (v := (.bool true)) (d := 70) rfl (by kernel_rfl) (by kernel_rfl) (by kernel_rfl) (by kernel_rfl) (by kernel_rfl) (fun _ _ _ h => h) ?_ (by assumption) ?_
    · intro w9 h9; kernel_rfl
    try simp only [Act.put, List.setIfInBounds_toArray, List.set_cons_zero, List.set_cons_succ]
    refine sqo_take (i := 16) (v := v1) (d := 71) rfl (by kernel_rfl) (by kernel_rfl) (by kernel_rfl) (by kernel_rfl) (by kernel_rfl) (fun _ _ _ h => h) ?_ (by assumption) ?_
    · intro w9 h9; kernel_rfl
    try simp only [Act.put, List.setIfInBounds_toArray, List.set_cons_zero, List.set_cons_succ]
    refine sqo_take (i := 17) (v := (.slice A n c)) (d := 72) rfl (by kernel_rfl) (by kernel_rfl) (by kernel_rfl) (by kernel_rfl) (by kernel_rfl) (fun _ _ _ h => h) ?_ (by assumption) ?_
    · intro w9 h9; kernel_rfl
    try simp only [Act.put, List.setIfInBounds_toArray, List.set_cons_zero, List.set_cons_succ]
    refine sqo_take (i := 18) (v := (.int .i64 (n : Int))) (d := 73) rfl (by kernel_rfl) (by kernel_rfl) (by kernel_rfl) (by kernel_rfl) (by kernel_rfl) (fun _ _ _ h => h) ?_ (by assumption) ?_
    · intro w9 h9; kernel_rfl
    try simp only [Act.put, List.setIfInBounds_toArray, List.set_cons_zero, List.set_cons_succ]
    refine sqo_take (i := 19) (v := (.int .i64 (k : Int))) (d := 74) rfl (by kernel_rfl) (by kernel_rfl) (by kernel_rfl) (by kernel_rfl) (by kernel_rfl) (fun _ _ _ h => h) ?_ (by assumption) ?_
    · intro w9 h9; kernel_rfl
    try simp only [Act.put, List.setIfInBounds_toArray, List.set_cons_zero, List.set_cons_succ]
    refine sqo_take (i := 20) (v := (.agg (u8s x).toArray)) (d := 75) rfl (by kernel_rfl) (by kernel_rfl) (by kernel_rfl) (by kernel_rfl) (by kernel_rfl) (fun _ _ _ h => h) ?_ (by assumption) ?_
    · intro w9 h9; exact exec_load_agg rfl w.heap.size 0 (by kernel_rfl) (u8s x) _ (HXr.out w9 h9) Try.underlying25 rfl HXF.out.2.1
    try simp only [Act.put, List.setIfInBounds_toArray, List.set_cons_zero, List.set_cons_succ]
    refine sqo_take (i := 21) (v := (.slice AP 0 cP)) (d := 76) rfl (by kernel_rfl) (by kernel_rfl) (by kernel_rfl) (by kernel_rfl) (by kernel_rfl) (fun _ _ _ h => h) ?_ (by assumption) ?_
    · intro w9 h9; kernel_rfl
    try simp only [Act.put, List.setIfInBounds_toArray, List.set_cons_zero, List.set_cons_succ]
    refine sqo_only (i := 22) rfl (by kernel_rfl) (by kernel_rfl) ?_
    have hr22 := fun (a₀ : Act) (o₀ : Oper) (K₀ : Act → World → Prop) (Q₀ : Exit → Act → World → Prop) => @sq_call Try.prog Q₀ a₀ o₀ w10 K₀ (OwnT w10 v1.ownBlock.toList (ppN (n : Int) (k : Int) x P)) 16 #[.int .i64 (n : Int), .int .i64 (k : Int), .agg (u8s x).toArray, .slice AP 0 cP] 77
    refine hr22 _ _ _ _ ?_ ?_ ?_ ?_
    · kernel_rfl
    · kernel_rfl
    · exact (pp_calls w10 v1.ownBlock.toList (fun y hy => (HT10.out.lt y (by simpa using hy)).2) (n : Int) (k : Int) x HX32.out AP 0 cP P HNP.out HcP.out (HDP7.out.fr hS10) HP1.out)
    rintro e w11 ⟨v2, rfl, ht2, g11⟩
    have HT2 := Lib.hid ht2
    have HT11 := Lib.hid (HT10.out.frD g11)
    have hS11 := OldW.step hS10 g11
    clear ht2 g11
    refine ⟨_, rfl, hS11, ?_⟩
    clear hr22
    try simp only [Act.put, List.setIfInBounds_toArray, List.set_cons_zero, List.set_cons_succ]
    refine sqo_only (i := 23) rfl (by kernel_rfl) (by kernel_rfl) ?_
    have hr23 := fun (a₀ : Act) (o₀ : Oper) (K₀ : Act → World → Prop) (Q₀ : Exit → Act → World → Prop) (hd : o₀.dst = some 78) (ho : o₀.op = .call { callee := .builtin .append, args := #[.tmp 71, .tmp 77], argTypes := #[37, 37] }) (hs : a₀.eval (.tmp 71) = v1) (hx : a₀.eval (.tmp 77) = v2) => @sq_appT2 Q₀ o₀ a₀ w11 K₀ (.tmp 71) (.tmp 77) 78 hd ho w7.heap.size w10.heap.size v1 v2 [] v1.ownBlock.toList (ppN (n : Int) (k : Int) lk P) (ppN (n : Int) (k : Int) x P) hs HT11.out hx HT2.out (fun y hy => by simp [hy]) HLEN.out hS11.size
    refine hr23 _ _ _ _ ?_ ?_ ?_ ?_ ?_
    · kernel_rfl
    · kernel_rfl
    · kernel_rfl
    · kernel_rfl
    intro v3 w12 ht3 ht1 g12
    have hS12 : OldW w7 w12 := Fr.trans' hS11 g12 (fun y hy => by simp only [Option.mem_toList] at hy; exact .inr ((HT11.out.lt y hy).1))
    obtain ⟨A5, c5, rfl, hc5, hin5⟩ := ht3.toIn
    obtain ⟨M, hM⟩ : ∃ M, ((ppN (n : Int) (k : Int) lk P) ++ (ppN (n : Int) (k : Int) x P)).length = M := ⟨_, rfl⟩
    rw [hM]
    have HCC := Lib.hid (show Calls Try.prog 17 #[.slice A5 M c5] w12 (Agg (.bool true) w12) from (Clash_calls w12 A5 M c5 _ hM hin5 HTX.out (by rw [List.length_append] at hM; have := HLEN.out; have := HLEN2.out; omega)).mono fun e w' ⟨h1, h2⟩ => ⟨by rw [h1, HCLc.out], h2⟩)
    have HT12 := Lib.hid ht1
    clear hM hc5 hin5 ht3 ht1 g12 hr23
    refine ⟨hS12, ?_⟩
    try simp only [Act.put, List.setIfInBounds_toArray, List.set_cons_zero, List.set_cons_succ]
    refine sqo_only (i := 24) rfl (by kernel_rfl) (by kernel_rfl) ?_
    have hr24 := fun (a₀ : Act) (o₀ : Oper) (K₀ : Act → World → Prop) (Q₀ : Exit → Act → World → Prop) => @sq_call Try.prog Q₀ a₀ o₀ w12 K₀ (Agg (.bool true) w12) 17 #[.slice A5 M c5] 79
    refine hr24 _ _ _ _ ?_ ?_ ?_ ?_
    · kernel_rfl
    · kernel_rfl
    · exact HCC.out
    rintro e w13 ⟨rfl, f13⟩
    have hS13 := OldW.step hS12 f13
    have HT13 := Lib.hid (HT12.out.frD f13)
    clear f13
    refine ⟨_, rfl, hS13, ?_⟩
    clear hr24
    try simp only [Act.put, List.setIfInBounds_toArray, List.set_cons_zero, List.set_cons_succ]
    refine sqo_take (i := 25) (v := (.bool false)) (d := 80) rfl (by kernel_rfl) (by kernel_rfl) (by kernel_rfl) (by kernel_rfl) (by kernel_rfl) (fun _ _ _ h => h) ?_ (by assumption) ?_
    · intro w9 h9; kernel_rfl
    try simp only [Act.put, List.setIfInBounds_toArray, List.set_cons_zero, List.set_cons_succ]
    refine sqo_take (i := 26) (v := (.bool false)) (d := 81) rfl (by kernel_rfl) (by kernel_rfl) (by kernel_rfl) (by kernel_rfl) (by kernel_rfl) (fun _ _ _ h => h) ?_ (by assumption) ?_
    · intro w9 h9; kernel_rfl
    try simp only [Act.put, List.setIfInBounds_toArray, List.set_cons_zero, List.set_cons_succ]
    refine wpAnyH_done (by kernel_rfl) ?_ _
    go_wp2_with fail
    go_ret
    exact ⟨rfl, F07.out.trans hS13⟩
  · have HPC := Lib.hid hPC; have HNP := Lib.hid hnP; have HP5 := Lib.hid hP5; have HP1 := Lib.hid (show nP ≤ 1000 by omega); have HPOS := Lib.hid (show 0 < nP by omega)
    obtain ⟨j, hj⟩ := Int.eq_ofNat_of_zero_le (show 0 ≤ a % (nP : Int) from Int.emod_nonneg _ (by omega))
    have hjn : j < nP := by have := Int.emod_lt_of_pos a (show (0 : Int) < (nP : Int) by omega); omega
    have HJ := Lib.hid hj; have HJN := Lib.hid hjn
    obtain ⟨y, hy⟩ : ∃ y, P[j]? = some y := ⟨P[j]'(by omega), by simp⟩
    have hy32 := hPA y (List.mem_of_getElem? hy)
    have HPY := Lib.hid hy; have HY32 := Lib.hid hy32; have HYF := Lib.hid (digF y hy32)
    have HNQ := Lib.hid (show (P.set j x).length = nP by rw [List.length_set, hnP])
    have hI2 : (1 : Int) ≤ (nP : Int) ∧ (nP : Int) ≤ 5 ∧ (0 : Int) ≤ (j : Int) ∧ (j : Int) < (nP : Int) := by omega
    have hqz : ((nP : Int) == 0) = false := by rw [beq_eq_false_iff_ne]; omega
    have hl3 := ppN_length (n : Int) (k : Int) lk (P.set j x); have ht3 := ppN_texts (n : Int) (k : Int) lk (P.set j x) hl32 (set_all hPA j x hx)
    have HLENb := Lib.hid (show (ppN (n : Int) (k : Int) lk P).length + (ppN (n : Int) (k : Int) lk (P.set j x)).length ≤ 100000 by have := HNQ.out; omega)
    have HLENb2 := Lib.hid (show (ppN (n : Int) (k : Int) lk P).length + (ppN (n : Int) (k : Int) lk (P.set j x)).length ≤ 10000 by have := HNQ.out; omega)
    have HTXb := Lib.hid (show ∀ t ∈ ppN (n : Int) (k : Int) lk P ++ ppN (n : Int) (k : Int) lk (P.set j x), t.length ≤ 1000 from fun t ht => by
      rw [List.mem_append] at ht
      rcases ht with ht | ht
      · exact ht1 t ht
      · exact ht3 t ht)
    have hclb := fun (g2 : inB (rootF l) n k lk (P.set j x) = true) (hne : P ≠ P.set j x) => turned_clash (rootF l) lk lk n k P (P.set j x) hl32 hl32 hPA (set_all hPA j x hx) hINB g2 (fun h => hne h.2)
    have hsne := fun h => set_ne (x := x) hy h
    clear hPC hnP hP5 hPA hINB hl1 hl2 hl3 ht1 ht2 ht3 hl32 hA hbA hcA hk hlk hP hxl hx hkn hn hc hD h30 hj hjn hy hy32 hin
    cases hyx : (y == x) with
    | true =>
      have HYX := Lib.hid hyx
      clear hclb hsne hyx
      go_enter Try.func4, Try.ntmps4
      go_wp2_with (first
        | go_big_skip
        | (refine box_agg rfl 25 (.tmp 3) rfl (u8s x).toArray rfl ?_; obtain ⟨w1, hw1⟩ : ∃ W, w.alloc (.cells (u8s x).toArray 25) = W := ⟨_, rfl⟩; rw [hw1]; have F1 := Lib.hid (show Fr [] w w1 from hw1 ▸ (Fr.refl [] w).alloc _); have HX1 := Lib.hid (show Blk w1 w.heap.size 25 (u8s x).toArray from hw1 ▸ Blk.new w _ _); clear hw1)
        | (go_at_call 6; (with_reducible refine (HAL.out w1).mono ?_); rintro e w2 ⟨rfl, f2⟩; have F2 := Lib.hid (F1.out.trans f2); have HX2 := Lib.hid (HX1.out.fr f2 (by simp)); clear f2))
      rw [HKK.out]
      go_wp2_with (first
        | (go_at_call 7; (refine (HRT.out w2 F2.out).mono ?_); rintro e w3 ⟨rfl, f3⟩; have F3 := Lib.hid (F2.out.trans f3); have HX3 := Lib.hid (HX2.out.fr f3 (by simp)); clear f3)
        | (refine wpList_alloc_agg rfl 25 rfl (zs 32).toArray arr32_zero ?_)
        | (refine wpList_store_agg rfl 25 (.tmp 12) (.tmp 36) rfl w3.heap.size 0 rfl (u8s (rootF l)) rfl (zs 32) 25 (Blk.new w3 _ _) HRF.out.1 (u8s_one _) HRF.out.2.1 ?_; rw [HRF.out.2.2]; obtain ⟨w4, hw4⟩ : ∃ W, (w3.alloc (.cells (zs 32).toArray 25)).setRow w3.heap.size (u8s (rootF l)).toArray = W := ⟨_, rfl⟩; rw [hw4];
            have f4 := (show Fr [] w3 w4 from hw4 ▸ ((Fr.refl [] w3).alloc _).setRow (.inr (Nat.le_refl _)) _); have F4 := Lib.hid (F3.out.trans f4); have HR4 := Lib.hid (show Blk w4 w3.heap.size 25 (u8s (rootF l)).toArray from hw4 ▸ (Blk.new w3 _ _).setRow_ _); have HX4 := Lib.hid (HX3.out.fr f4 (by simp)); clear hw4 f4)
        | (go_at_call 8; (refine (HPC.out w4 F4.out).mono ?_); rintro e w5 ⟨AP, cP, rfl, hcP, hDP, _, f5⟩; have HDP := Lib.hid hDP; have HcP := Lib.hid hcP; have F5 := Lib.hid (F4.out.trans f5); have HR5 := Lib.hid (HR4.out.fr f5 (by simp)); have HX5 := Lib.hid (HX4.out.fr f5 (by simp)); clear f5 hDP hcP)
        | (refine wpList_wanted (v := .slice (some ⟨w5.heap.size, 0, none⟩) 0 0) (by kernel_rfl) (ex_build_dg0 rfl w5) ?_; obtain ⟨w6, hw6⟩ : ∃ W, w5.alloc (.cells #[] 25) = W := ⟨_, rfl⟩; rw [hw6]; have F56 := Lib.hid (show Fr [] w5 w6 from hw6 ▸ (Fr.refl [] w5).alloc _); have HQ6 := Lib.hid (show w6.ownsRow w5.heap.size 25 32 (.slice (some ⟨w5.heap.size, 0, none⟩) 0 0) ([] : List (List UInt8)).length (([] : List (List UInt8)).flatMap u8s) from hw6 ▸ own_dg0 w5); clear hw6)
        | (at_builtin; refine wpList_appDgs rfl (.tmp 43) (.tmp 44) 45 rfl rfl w5.heap.size (.slice (some ⟨w5.heap.size, 0, none⟩) 0 0) rfl HQ6.out P HPA.out AP nP cP HNP.out rfl (HDP.out.fr F56.out) (by have := HNP.out; have := HP5.out; omega) F56.out.size ?_; intro vq w7 hq7 f7; have F57 := Lib.hid (Fr.trans' F56.out f7 (fun y hy => .inr (by simp [Value.ownBlock] at hy; omega)));
            obtain ⟨gq, cq, cur, rfl, hgb, hbq, hcq, hsz, htk⟩ := own_dgf hq7 HPOS.out; have HBQ7 := Lib.hid hbq; have HGB := Lib.hid hgb; have HCQ7 := Lib.hid hcq; have HSZ := Lib.hid hsz; have HTK := Lib.hid htk; have HGLT := Lib.hid hbq.lt; clear hgb hbq hcq hsz htk;
            have F07 := Lib.hid (F5.out.trans F57.out); have HX7 := Lib.hid (HX5.out.fr F57.out (by simp)); have HR7 := Lib.hid (HR5.out.fr F57.out (by simp)); have HDP7 := Lib.hid (HDP.out.fr F57.out); have HPP1 := Lib.hid (pp_calls w7 [gq] (fun y hy => by simp only [List.mem_singleton] at hy; rw [hy]; exact HGLT.out) (n : Int) (k : Int) lk HL32.out AP nP cP P HNP.out HcP.out HDP7.out HP1.out); clear f7 hq7)
        | (refine wpList_wanted (v := .pointer (some ⟨bA, oA + k * 32, none⟩)) (by kernel_rfl) (ex_ixa rfl rfl rfl (HIX.out w7)) ?_)
        | (refine wpList_wanted (v := .agg (u8s lk).toArray) (by kernel_rfl) (exec_load_agg (ty := 25) (x := .tmp 51) rfl bA (oA + k * 32) rfl (u8s lk) _ (HCL.out w7 F07.out) Try.underlying25 rfl HLF.out.2.1) ?_)
        | (go_at_call 16; (refine HPP1.out.mono ?_); rintro e w8 ⟨v1, rfl, ht8, f8⟩; have HT8 := Lib.hid ht8; have F8 := Lib.hid f8; clear ht8 f8))
      have HXr := Lib.hid (fun w9 (h9 : OldW w7 w9) => rd_row (HX7.out.fr h9 (by simp))); have HRr := Lib.hid (fun w9 (h9 : OldW w7 w9) => rd_row (HR7.out.fr h9 (by simp))); have HLr := Lib.hid (fun w9 (h9 : OldW w7 w9) => HCL.out w9 (F07.out.trans h9))
      have hS8 : OldW w7 w8.drew := F8.out.trans (Fr.refl [] w8).drew
      have HT9 := Lib.hid (HT8.out.frD (Fr.refl [] w8).drew)
      have HIN1 := Lib.hid (show Calls Try.prog 13 #[.agg (u8s (rootF l)).toArray, .int .i64 (n : Int), .int .i64 (k : Int), .agg (u8s x).toArray, .slice AP nP cP] w8.drew (Agg (.bool true) w8.drew) from by
        have := InPath_calls w8.drew (rootF l) (rootF_length _) (n : Int) (k : Int) x HX32.out AP _ cP P HNP.out HcP.out (HDP7.out.fr hS8) HP1.out
        rwa [HIN.out] at this)
      refine sqo_begin (w0 := w7) (by kernel_rfl) ?_
      refine sqo_take (i := 0) (v := (.agg (u8s x).toArray)) (d := 55) rfl (by kernel_rfl) (by kernel_rfl) (by kernel_rfl) (by kernel_rfl) (by kernel_rfl) (fun _ _ _ h => h) ?_ (by assumption) ?_
      · intro w9 h9; exact exec_load_agg rfl w.heap.size 0 (by kernel_rfl) (u8s x) _ (HXr.out w9 h9) Try.underlying25 rfl HXF.out.2.1
      try simp only [Act.put, List.setIfInBounds_toArray, List.set_cons_zero, List.set_cons_succ]
      refine sqo_take (i := 1) (v := (.slice A n c)) (d := 56) rfl (by kernel_rfl) (by kernel_rfl) (by kernel_rfl) (by kernel_rfl) (by kernel_rfl) (fun _ _ _ h => h) ?_ (by assumption) ?_
      · intro w9 h9; kernel_rfl
      try simp only [Act.put, List.setIfInBounds_toArray, List.set_cons_zero, List.set_cons_succ]
      refine sqo_take (i := 2) (v := (.int .i64 (k : Int))) (d := 57) rfl (by kernel_rfl) (by kernel_rfl) (by kernel_rfl) (by kernel_rfl) (by kernel_rfl) (fun _ _ _ h => h) ?_ (by assumption) ?_
      · intro w9 h9; kernel_rfl
      try simp only [Act.put, List.setIfInBounds_toArray, List.set_cons_zero, List.set_cons_succ]
      refine sqo_take (i := 3) (v := (.pointer (some ⟨bA, oA + k * 32, none⟩))) (d := 58) rfl (by kernel_rfl) (by kernel_rfl) (by kernel_rfl) (by kernel_rfl) (by kernel_rfl) (fun _ _ _ h => h) ?_ (by assumption) ?_
      · intro w9 h9; exact ex_ixa rfl (by kernel_rfl) (by kernel_rfl) (HIX.out w9)
      try simp only [Act.put, List.setIfInBounds_toArray, List.set_cons_zero, List.set_cons_succ]
      refine sqo_take (i := 4) (v := (.agg (u8s lk).toArray)) (d := 59) rfl (by kernel_rfl) (by kernel_rfl) (by kernel_rfl) (by kernel_rfl) (by kernel_rfl) (fun _ _ _ h => h) ?_ (by assumption) ?_
      · intro w9 h9; exact exec_load_agg rfl bA (oA + k * 32) (by kernel_rfl) (u8s lk) _ (HLr.out w9 h9) Try.underlying25 rfl HLF.out.2.1
      try simp only [Act.put, List.setIfInBounds_toArray, List.set_cons_zero, List.set_cons_succ]
      refine sqo_take (i := 5) (v := (.bool true)) (d := 60) rfl (by kernel_rfl) (by kernel_rfl) (by kernel_rfl) (by kernel_rfl) (by kernel_rfl) (fun _ _ _ h => h) ?_ (by assumption) ?_
      · intro w9 h9; exact ex_neq_digB w9 rfl x lk (by kernel_rfl) (by kernel_rfl) HX32.out HL32.out HNE.out
      try simp only [Act.put, List.setIfInBounds_toArray, List.set_cons_zero, List.set_cons_succ]
      refine sqo_take (i := 6) (v := (.bool true)) (d := 61) rfl (by kernel_rfl) (by kernel_rfl) (by kernel_rfl) (by kernel_rfl) (by kernel_rfl) (fun _ _ _ h => h) ?_ (by assumption) ?_
      · intro w9 h9; kernel_rfl
      try simp only [Act.put, List.setIfInBounds_toArray, List.set_cons_zero, List.set_cons_succ]
      refine sqo_take (i := 7) (v := (.agg (u8s (rootF l)).toArray)) (d := 62) rfl (by kernel_rfl) (by kernel_rfl) (by kernel_rfl) (by kernel_rfl) (by kernel_rfl) (fun _ _ _ h => h) ?_ (by assumption) ?_
      · intro w9 h9; exact exec_load_agg rfl w3.heap.size 0 (by kernel_rfl) (u8s (rootF l)) _ (HRr.out w9 h9) Try.underlying25 rfl HRF.out.2.1
      try simp only [Act.put, List.setIfInBounds_toArray, List.set_cons_zero, List.set_cons_succ]
      refine sqo_take (i := 8) (v := (.slice A n c)) (d := 63) rfl (by kernel_rfl) (by kernel_rfl) (by kernel_rfl) (by kernel_rfl) (by kernel_rfl) (fun _ _ _ h => h) ?_ (by assumption) ?_
      · intro w9 h9; kernel_rfl
      try simp only [Act.put, List.setIfInBounds_toArray, List.set_cons_zero, List.set_cons_succ]
      refine sqo_take (i := 9) (v := (.int .i64 (n : Int))) (d := 64) rfl (by kernel_rfl) (by kernel_rfl) (by kernel_rfl) (by kernel_rfl) (by kernel_rfl) (fun _ _ _ h => h) ?_ (by assumption) ?_
      · intro w9 h9; kernel_rfl
      try simp only [Act.put, List.setIfInBounds_toArray, List.set_cons_zero, List.set_cons_succ]
      refine sqo_take (i := 10) (v := (.int .i64 (k : Int))) (d := 65) rfl (by kernel_rfl) (by kernel_rfl) (by kernel_rfl) (by kernel_rfl) (by kernel_rfl) (fun _ _ _ h => h) ?_ (by assumption) ?_
      · intro w9 h9; kernel_rfl
      try simp only [Act.put, List.setIfInBounds_toArray, List.set_cons_zero, List.set_cons_succ]
      refine sqo_take (i := 11) (v := (.agg (u8s x).toArray)) (d := 66) rfl (by kernel_rfl) (by kernel_rfl) (by kernel_rfl) (by kernel_rfl) (by kernel_rfl) (fun _ _ _ h => h) ?_ (by assumption) ?_
      · intro w9 h9; exact exec_load_agg rfl w.heap.size 0 (by kernel_rfl) (u8s x) _ (HXr.out w9 h9) Try.underlying25 rfl HXF.out.2.1
      try simp only [Act.put, List.setIfInBounds_toArray, List.set_cons_zero, List.set_cons_succ]
      refine sqo_take (i := 12) (v := (.slice AP nP cP)) (d := 67) rfl (by kernel_rfl) (by kernel_rfl) (by kernel_rfl) (by kernel_rfl) (by kernel_rfl) (fun _ _ _ h => h) ?_ (by assumption) ?_
      · intro w9 h9; kernel_rfl
      try simp only [Act.put, List.setIfInBounds_toArray, List.set_cons_zero, List.set_cons_succ]
      refine sqo_only (i := 13) rfl (by kernel_rfl) (by kernel_rfl) ?_
      have hr13 := fun (a₀ : Act) (o₀ : Oper) (K₀ : Act → World → Prop) (Q₀ : Exit → Act → World → Prop) => @sq_call Try.prog Q₀ a₀ o₀ w8.drew K₀ (Agg (.bool true) w8.drew) 13 #[.agg (u8s (rootF l)).toArray, .int .i64 (n : Int), .int .i64 (k : Int), .agg (u8s x).toArray, .slice AP nP cP] 68
      refine hr13 _ _ _ _ ?_ ?_ ?_ ?_
      · kernel_rfl
      · kernel_rfl
      · exact HIN1.out
      rintro e w10 ⟨rfl, f9⟩
      have hS10 := OldW.step hS8 f9
      have HT10 := Lib.hid (HT9.out.frD f9)
      clear f9
      refine ⟨_, rfl, hS10, ?_⟩
      clear hr13
      try simp only [Act.put, List.setIfInBounds_toArray, List.set_cons_zero, List.set_cons_succ]
      refine sqo_take (i := 14) (v := (.bool true)) (d := 69) rfl (by kernel_rfl) (by kernel_rfl) (by kernel_rfl) (by kernel_rfl) (by kernel_rfl) (fun _ _ _ h => h) ?_ (by assumption) ?_
      · intro w9 h9; kernel_rfl
      try simp only [Act.put, List.setIfInBounds_toArray, List.set_cons_zero, List.set_cons_succ]
      refine sqo_take (i := 15) (v := (.bool true)) (d := 70) rfl (by kernel_rfl) (by kernel_rfl) (by kernel_rfl) (by kernel_rfl) (by kernel_rfl) (fun _ _ _ h => h) ?_ (by assumption) ?_
      · intro w9 h9; kernel_rfl
      try simp only [Act.put, List.setIfInBounds_toArray, List.set_cons_zero, List.set_cons_succ]
      refine sqo_take (i := 16) (v := v1) (d := 71) rfl (by kernel_rfl) (by kernel_rfl) (by kernel_rfl) (by kernel_rfl) (by kernel_rfl) (fun _ _ _ h => h) ?_ (by assumption) ?_
      · intro w9 h9; kernel_rfl
      try simp only [Act.put, List.setIfInBounds_toArray, List.set_cons_zero, List.set_cons_succ]
      refine sqo_take (i := 17) (v := (.slice A n c)) (d := 72) rfl (by kernel_rfl) (by kernel_rfl) (by kernel_rfl) (by kernel_rfl) (by kernel_rfl) (fun _ _ _ h => h) ?_ (by assumption) ?_
      · intro w9 h9; kernel_rfl
      try simp only [Act.put, List.setIfInBounds_toArray, List.set_cons_zero, List.set_cons_succ]
      refine sqo_take (i := 18) (v := (.int .i64 (n : Int))) (d := 73) rfl (by kernel_rfl) (by kernel_rfl) (by kernel_rfl) (by kernel_rfl) (by kernel_rfl) (fun _ _ _ h => h) ?_ (by assumption) ?_
      · intro w9 h9; kernel_rfl
      try simp only [Act.put, List.setIfInBounds_toArray, List.set_cons_zero, List.set_cons_succ]
      refine sqo_take (i := 19) (v := (.int .i64 (k : Int))) (d := 74) rfl (by kernel_rfl) (by kernel_rfl) (by kernel_rfl) (by kernel_rfl) (by kernel_rfl) (fun _ _ _ h => h) ?_ (by assumption) ?_
      · intro w9 h9; kernel_rfl
      try simp only [Act.put, List.setIfInBounds_toArray, List.set_cons_zero, List.set_cons_succ]
      refine sqo_take (i := 20) (v := (.agg (u8s x).toArray)) (d := 75) rfl (by kernel_rfl) (by kernel_rfl) (by kernel_rfl) (by kernel_rfl) (by kernel_rfl) (fun _ _ _ h => h) ?_ (by assumption) ?_
      · intro w9 h9; exact exec_load_agg rfl w.heap.size 0 (by kernel_rfl) (u8s x) _ (HXr.out w9 h9) Try.underlying25 rfl HXF.out.2.1
      try simp only [Act.put, List.setIfInBounds_toArray, List.set_cons_zero, List.set_cons_succ]
      refine sqo_take (i := 21) (v := (.slice AP nP cP)) (d := 76) rfl (by kernel_rfl) (by kernel_rfl) (by kernel_rfl) (by kernel_rfl) (by kernel_rfl) (fun _ _ _ h => h) ?_ (by assumption) ?_
      · intro w9 h9; kernel_rfl
      try simp only [Act.put, List.setIfInBounds_toArray, List.set_cons_zero, List.set_cons_succ]
      refine sqo_only (i := 22) rfl (by kernel_rfl) (by kernel_rfl) ?_
      have hr22 := fun (a₀ : Act) (o₀ : Oper) (K₀ : Act → World → Prop) (Q₀ : Exit → Act → World → Prop) => @sq_call Try.prog Q₀ a₀ o₀ w10 K₀ (OwnT w10 v1.ownBlock.toList (ppN (n : Int) (k : Int) x P)) 16 #[.int .i64 (n : Int), .int .i64 (k : Int), .agg (u8s x).toArray, .slice AP nP cP] 77
      refine hr22 _ _ _ _ ?_ ?_ ?_ ?_
      · kernel_rfl
      · kernel_rfl
      · exact (pp_calls w10 v1.ownBlock.toList (fun y hy => (HT10.out.lt y (by simpa using hy)).2) (n : Int) (k : Int) x HX32.out AP nP cP P HNP.out HcP.out (HDP7.out.fr hS10) HP1.out)
      rintro e w11 ⟨v2, rfl, ht2, g11⟩
      have HT2 := Lib.hid ht2
      have HT11 := Lib.hid (HT10.out.frD g11)
      have hS11 := OldW.step hS10 g11
      clear ht2 g11
      refine ⟨_, rfl, hS11, ?_⟩
      clear hr22
      try simp only [Act.put, List.setIfInBounds_toArray, List.set_cons_zero, List.set_cons_succ]
      refine sqo_only (i := 23) rfl (by kernel_rfl) (by kernel_rfl) ?_
      have hr23 := fun (a₀ : Act) (o₀ : Oper) (K₀ : Act → World → Prop) (Q₀ : Exit → Act → World → Prop) (hd : o₀.dst = some 78) (ho : o₀.op = .call { callee := .builtin .append, args := #[.tmp 71, .tmp 77], argTypes := #[37, 37] }) (hs : a₀.eval (.tmp 71) = v1) (hx : a₀.eval (.tmp 77) = v2) => @sq_appT2 Q₀ o₀ a₀ w11 K₀ (.tmp 71) (.tmp 77) 78 hd ho w7.heap.size w10.heap.size v1 v2 [gq] v1.ownBlock.toList (ppN (n : Int) (k : Int) lk P) (ppN (n : Int) (k : Int) x P) hs HT11.out hx HT2.out (fun y hy => by simp [hy]) HLEN.out hS11.size
      refine hr23 _ _ _ _ ?_ ?_ ?_ ?_ ?_
      · kernel_rfl
      · kernel_rfl
      · kernel_rfl
      · kernel_rfl
      intro v3 w12 ht3 ht1 g12
      have hS12 : OldW w7 w12 := Fr.trans' hS11 g12 (fun y hy => by simp only [Option.mem_toList] at hy; exact .inr ((HT11.out.lt y hy).1))
      obtain ⟨A5, c5, rfl, hc5, hin5⟩ := ht3.toIn
      obtain ⟨M, hM⟩ : ∃ M, ((ppN (n : Int) (k : Int) lk P) ++ (ppN (n : Int) (k : Int) x P)).length = M := ⟨_, rfl⟩
      rw [hM]
      have HCC := Lib.hid (show Calls Try.prog 17 #[.slice A5 M c5] w12 (Agg (.bool true) w12) from (Clash_calls w12 A5 M c5 _ hM hin5 HTX.out (by rw [List.length_append] at hM; have := HLEN.out; have := HLEN2.out; omega)).mono fun e w' ⟨h1, h2⟩ => ⟨by rw [h1, HCLc.out], h2⟩)
      have HT12 := Lib.hid ht1
      clear hM hc5 hin5 ht3 ht1 g12 hr23
      refine ⟨hS12, ?_⟩
      try simp only [Act.put, List.setIfInBounds_toArray, List.set_cons_zero, List.set_cons_succ]
      refine sqo_only (i := 24) rfl (by kernel_rfl) (by kernel_rfl) ?_
      have hr24 := fun (a₀ : Act) (o₀ : Oper) (K₀ : Act → World → Prop) (Q₀ : Exit → Act → World → Prop) => @sq_call Try.prog Q₀ a₀ o₀ w12 K₀ (Agg (.bool true) w12) 17 #[.slice A5 M c5] 79
      refine hr24 _ _ _ _ ?_ ?_ ?_ ?_
      · kernel_rfl
      · kernel_rfl
      · exact HCC.out
      rintro e w13 ⟨rfl, f13⟩
      have hS13 := OldW.step hS12 f13
      have HT13 := Lib.hid (HT12.out.frD f13)
      clear f13
      refine ⟨_, rfl, hS13, ?_⟩
      clear hr24
      try simp only [Act.put, List.setIfInBounds_toArray, List.set_cons_zero, List.set_cons_succ]
      refine sqo_take (i := 25) (v := (.bool false)) (d := 80) rfl (by kernel_rfl) (by kernel_rfl) (by kernel_rfl) (by kernel_rfl) (by kernel_rfl) (fun _ _ _ h => h) ?_ (by assumption) ?_
      · intro w9 h9; kernel_rfl
      try simp only [Act.put, List.setIfInBounds_toArray, List.set_cons_zero, List.set_cons_succ]
      refine sqo_take (i := 26) (v := (.bool false)) (d := 81) rfl (by kernel_rfl) (by kernel_rfl) (by kernel_rfl) (by kernel_rfl) (by kernel_rfl) (fun _ _ _ h => h) ?_ (by assumption) ?_
      · intro w9 h9; kernel_rfl
      try simp only [Act.put, List.setIfInBounds_toArray, List.set_cons_zero, List.set_cons_succ]
      refine wpAnyH_done (by kernel_rfl) ?_ _
      go_wp2_with fail
      rw [HJ.out]
      have HIXQ := Lib.hid (fun w9 => (show (Instr.indexAt 22 (.slice (some ⟨gq, 0, none⟩) nP cq) (.int .i64 (j : Int))).run Try.prog w9 = .ok (.pointer (some ⟨gq, j * 32, none⟩)) w9 from by
        have := run_index_slice' (P := Try.prog) (t := 22) (size := 32) w9 Try.underlying22 dg_size (A := some ⟨gq, 0, none⟩) (n := nP) (c := cq) (j := j) rfl HJN.out
        rwa [Nat.zero_add] at this))
      have HDQ7 := Lib.hid (blk_dgs HPA.out HNP.out HBQ7.out HSZ.out HTK.out)
      have HCQ := Lib.hid (fun w9 (h9 : OldW w7 w9) r v (hv : (u8s y)[r]? = some v) => (show w9.cell? ⟨gq, j * 32 + r, none⟩ = some v from by
        have := (HDQ7.out.fr h9).at j y HPY.out r v hv
        rwa [Nat.zero_add] at this))
      have hT0 : OldW w7 w13.drew := OldW.step hS13 (Fr.refl [] w13).drew
      refine sqo_begin (w0 := w7) (by kernel_rfl) ?_
      refine sqo_take (i := 0) (v := (.slice (some ⟨gq, 0, none⟩) nP cq)) (d := 90) rfl (by kernel_rfl) (by kernel_rfl) (by kernel_rfl) (by kernel_rfl) (by kernel_rfl) (fun _ _ _ h => h) ?_ (by assumption) ?_
      · intro w9 h9; kernel_rfl
      try simp only [Act.put, List.setIfInBounds_toArray, List.set_cons_zero, List.set_cons_succ]
      refine sqo_take (i := 1) (v := (.int .i64 (j : Int))) (d := 91) rfl (by kernel_rfl) (by kernel_rfl) (by kernel_rfl) (by kernel_rfl) (by kernel_rfl) (fun _ _ _ h => h) ?_ (by assumption) ?_
      · intro w9 h9; kernel_rfl
      try simp only [Act.put, List.setIfInBounds_toArray, List.set_cons_zero, List.set_cons_succ]
      refine sqo_take (i := 2) (v := (.pointer (some ⟨gq, j * 32, none⟩))) (d := 92) rfl (by kernel_rfl) (by kernel_rfl) (by kernel_rfl) (by kernel_rfl) (by kernel_rfl) (fun _ _ _ h => h) ?_ (by assumption) ?_
      · intro w9 h9; exact ex_ixa rfl (by kernel_rfl) (by kernel_rfl) (HIXQ.out w9)
      try simp only [Act.put, List.setIfInBounds_toArray, List.set_cons_zero, List.set_cons_succ]
      refine sqo_take (i := 3) (v := (.agg (u8s y).toArray)) (d := 93) rfl (by kernel_rfl) (by kernel_rfl) (by kernel_rfl) (by kernel_rfl) (by kernel_rfl) (fun _ _ _ h => h) ?_ (by assumption) ?_
      · intro w9 h9; exact exec_load_agg rfl gq (j * 32) (by kernel_rfl) (u8s y) _ (HCQ.out w9 h9) Try.underlying25 rfl HYF.out.2.1
      try simp only [Act.put, List.setIfInBounds_toArray, List.set_cons_zero, List.set_cons_succ]
      refine sqo_take (i := 4) (v := (.agg (u8s x).toArray)) (d := 94) rfl (by kernel_rfl) (by kernel_rfl) (by kernel_rfl) (by kernel_rfl) (by kernel_rfl) (fun _ _ _ h => h) ?_ (by assumption) ?_
      · intro w9 h9; exact exec_load_agg rfl w.heap.size 0 (by kernel_rfl) (u8s x) _ (HXr.out w9 h9) Try.underlying25 rfl HXF.out.2.1
      try simp only [Act.put, List.setIfInBounds_toArray, List.set_cons_zero, List.set_cons_succ]
      refine sqo_take (i := 5) (v := (.bool true)) (d := 95) rfl (by kernel_rfl) (by kernel_rfl) (by kernel_rfl) (by kernel_rfl) (by kernel_rfl) (fun _ _ _ h => h) ?_ (by assumption) ?_
      · intro w9 h9; exact ex_eql_digB w9 rfl y x (by kernel_rfl) (by kernel_rfl) HY32.out HX32.out HYX.out
      try simp only [Act.put, List.setIfInBounds_toArray, List.set_cons_zero, List.set_cons_succ]
      refine wpAnyH_done (by kernel_rfl) ?_ _
      go_wp2_with fail
      go_ret
      exact ⟨rfl, F07.out.trans hT0⟩
    | false =>
      have HYX := Lib.hid hyx
      cases hin2 : inB (rootF l) n k lk (P.set j x) with
      | false =>
        have HIN2 := Lib.hid hin2
        clear hclb hsne hyx hin2
        go_enter Try.func4, Try.ntmps4
        go_wp2_with (first
          | go_big_skip
          | (refine box_agg rfl 25 (.tmp 3) rfl (u8s x).toArray rfl ?_; obtain ⟨w1, hw1⟩ : ∃ W, w.alloc (.cells (u8s x).toArray 25) = W := ⟨_, rfl⟩; rw [hw1]; have F1 := Lib.hid (show Fr [] w w1 from hw1 ▸ (Fr.refl [] w).alloc _); have HX1 := Lib.hid (show Blk w1 w.heap.size 25 (u8s x).toArray from hw1 ▸ Blk.new w _ _); clear hw1)
          | (go_at_call 6; (with_reducible refine (HAL.out w1).mono ?_); rintro e w2 ⟨rfl, f2⟩; have F2 := Lib.hid (F1.out.trans f2); have HX2 := Lib.hid (HX1.out.fr f2 (by simp)); clear f2))
        rw [HKK.out]
        go_wp2_with (first
          | (go_at_call 7; (refine (HRT.out w2 F2.out).mono ?_); rintro e w3 ⟨rfl, f3⟩; have F3 := Lib.hid (F2.out.trans f3); have HX3 := Lib.hid (HX2.out.fr f3 (by simp)); clear f3)
          | (refine wpList_alloc_agg rfl 25 rfl (zs 32).toArray arr32_zero ?_)
          | (refine wpList_store_agg rfl 25 (.tmp 12) (.tmp 36) rfl w3.heap.size 0 rfl (u8s (rootF l)) rfl (zs 32) 25 (Blk.new w3 _ _) HRF.out.1 (u8s_one _) HRF.out.2.1 ?_; rw [HRF.out.2.2]; obtain ⟨w4, hw4⟩ : ∃ W, (w3.alloc (.cells (zs 32).toArray 25)).setRow w3.heap.size (u8s (rootF l)).toArray = W := ⟨_, rfl⟩; rw [hw4];
              have f4 := (show Fr [] w3 w4 from hw4 ▸ ((Fr.refl [] w3).alloc _).setRow (.inr (Nat.le_refl _)) _); have F4 := Lib.hid (F3.out.trans f4); have HR4 := Lib.hid (show Blk w4 w3.heap.size 25 (u8s (rootF l)).toArray from hw4 ▸ (Blk.new w3 _ _).setRow_ _); have HX4 := Lib.hid (HX3.out.fr f4 (by simp)); clear hw4 f4)
          | (go_at_call 8; (refine (HPC.out w4 F4.out).mono ?_); rintro e w5 ⟨AP, cP, rfl, hcP, hDP, _, f5⟩; have HDP := Lib.hid hDP; have HcP := Lib.hid hcP; have F5 := Lib.hid (F4.out.trans f5); have HR5 := Lib.hid (HR4.out.fr f5 (by simp)); have HX5 := Lib.hid (HX4.out.fr f5 (by simp)); clear f5 hDP hcP)
          | (refine wpList_wanted (v := .slice (some ⟨w5.heap.size, 0, none⟩) 0 0) (by kernel_rfl) (ex_build_dg0 rfl w5) ?_; obtain ⟨w6, hw6⟩ : ∃ W, w5.alloc (.cells #[] 25) = W := ⟨_, rfl⟩; rw [hw6]; have F56 := Lib.hid (show Fr [] w5 w6 from hw6 ▸ (Fr.refl [] w5).alloc _); have HQ6 := Lib.hid (show w6.ownsRow w5.heap.size 25 32 (.slice (some ⟨w5.heap.size, 0, none⟩) 0 0) ([] : List (List UInt8)).length (([] : List (List UInt8)).flatMap u8s) from hw6 ▸ own_dg0 w5); clear hw6)
          | (at_builtin; refine wpList_appDgs rfl (.tmp 43) (.tmp 44) 45 rfl rfl w5.heap.size (.slice (some ⟨w5.heap.size, 0, none⟩) 0 0) rfl HQ6.out P HPA.out AP nP cP HNP.out rfl (HDP.out.fr F56.out) (by have := HNP.out; have := HP5.out; omega) F56.out.size ?_; intro vq w7 hq7 f7; have F57 := Lib.hid (Fr.trans' F56.out f7 (fun y hy => .inr (by simp [Value.ownBlock] at hy; omega)));
              obtain ⟨gq, cq, cur, rfl, hgb, hbq, hcq, hsz, htk⟩ := own_dgf hq7 HPOS.out; have HBQ7 := Lib.hid hbq; have HGB := Lib.hid hgb; have HCQ7 := Lib.hid hcq; have HSZ := Lib.hid hsz; have HTK := Lib.hid htk; have HGLT := Lib.hid hbq.lt; clear hgb hbq hcq hsz htk;
              have F07 := Lib.hid (F5.out.trans F57.out); have HX7 := Lib.hid (HX5.out.fr F57.out (by simp)); have HR7 := Lib.hid (HR5.out.fr F57.out (by simp)); have HDP7 := Lib.hid (HDP.out.fr F57.out); have HPP1 := Lib.hid (pp_calls w7 [gq] (fun y hy => by simp only [List.mem_singleton] at hy; rw [hy]; exact HGLT.out) (n : Int) (k : Int) lk HL32.out AP nP cP P HNP.out HcP.out HDP7.out HP1.out); clear f7 hq7)
          | (refine wpList_wanted (v := .pointer (some ⟨bA, oA + k * 32, none⟩)) (by kernel_rfl) (ex_ixa rfl rfl rfl (HIX.out w7)) ?_)
          | (refine wpList_wanted (v := .agg (u8s lk).toArray) (by kernel_rfl) (exec_load_agg (ty := 25) (x := .tmp 51) rfl bA (oA + k * 32) rfl (u8s lk) _ (HCL.out w7 F07.out) Try.underlying25 rfl HLF.out.2.1) ?_)
          | (go_at_call 16; (refine HPP1.out.mono ?_); rintro e w8 ⟨v1, rfl, ht8, f8⟩; have HT8 := Lib.hid ht8; have F8 := Lib.hid f8; clear ht8 f8))
        have HXr := Lib.hid (fun w9 (h9 : OldW w7 w9) => rd_row (HX7.out.fr h9 (by simp))); have HRr := Lib.hid (fun w9 (h9 : OldW w7 w9) => rd_row (HR7.out.fr h9 (by simp))); have HLr := Lib.hid (fun w9 (h9 : OldW w7 w9) => HCL.out w9 (F07.out.trans h9))
        have hS8 : OldW w7 w8.drew := F8.out.trans (Fr.refl [] w8).drew
        have HT9 := Lib.hid (HT8.out.frD (Fr.refl [] w8).drew)
        have HIN1 := Lib.hid (show Calls Try.prog 13 #[.agg (u8s (rootF l)).toArray, .int .i64 (n : Int), .int .i64 (k : Int), .agg (u8s x).toArray, .slice AP nP cP] w8.drew (Agg (.bool true) w8.drew) from by
          have := InPath_calls w8.drew (rootF l) (rootF_length _) (n : Int) (k : Int) x HX32.out AP _ cP P HNP.out HcP.out (HDP7.out.fr hS8) HP1.out
          rwa [HIN.out] at this)
        refine sqo_begin (w0 := w7) (by kernel_rfl) ?_
        refine sqo_take (i := 0) (v := (.agg (u8s x).toArray)) (d := 55) rfl (by kernel_rfl) (by kernel_rfl) (by kernel_rfl) (by kernel_rfl) (by kernel_rfl) (fun _ _ _ h => h) ?_ (by assumption) ?_
        · intro w9 h9; exact exec_load_agg rfl w.heap.size 0 (by kernel_rfl) (u8s x) _ (HXr.out w9 h9) Try.underlying25 rfl HXF.out.2.1
        try simp only [Act.put, List.setIfInBounds_toArray, List.set_cons_zero, List.set_cons_succ]
        refine sqo_take (i := 1) (v := (.slice A n c)) (d := 56) rfl (by kernel_rfl) (by kernel_rfl) (by kernel_rfl) (by kernel_rfl) (by kernel_rfl) (fun _ _ _ h => h) ?_ (by assumption) ?_
        · intro w9 h9; kernel_rfl
        try simp only [Act.put, List.setIfInBounds_toArray, List.set_cons_zero, List.set_cons_succ]
        refine sqo_take (i := 2) (v := (.int .i64 (k : Int))) (d := 57) rfl (by kernel_rfl) (by kernel_rfl) (by kernel_rfl) (by kernel_rfl) (by kernel_rfl) (fun _ _ _ h => h) ?_ (by assumption) ?_
        · intro w9 h9; kernel_rfl
        try simp only [Act.put, List.setIfInBounds_toArray, List.set_cons_zero, List.set_cons_succ]
        refine sqo_take (i := 3) (v := (.pointer (some ⟨bA, oA + k * 32, none⟩))) (d := 58) rfl (by kernel_rfl) (by kernel_rfl) (by kernel_rfl) (by kernel_rfl) (by kernel_rfl) (fun _ _ _ h => h) ?_ (by assumption) ?_
        · intro w9 h9; exact ex_ixa rfl (by kernel_rfl) (by kernel_rfl) (HIX.out w9)
        try simp only [Act.put, List.setIfInBounds_toArray, List.set_cons_zero, List.set_cons_succ]
        refine sqo_take (i := 4) (v := (.agg (u8s lk).toArray)) (d := 59) rfl (by kernel_rfl) (by kernel_rfl) (by kernel_rfl) (by kernel_rfl) (by kernel_rfl) (fun _ _ _ h => h) ?_ (by assumption) ?_
        · intro w9 h9; exact exec_load_agg rfl bA (oA + k * 32) (by kernel_rfl) (u8s lk) _ (HLr.out w9 h9) Try.underlying25 rfl HLF.out.2.1
        try simp only [Act.put, List.setIfInBounds_toArray, List.set_cons_zero, List.set_cons_succ]
        refine sqo_take (i := 5) (v := (.bool true)) (d := 60) rfl (by kernel_rfl) (by kernel_rfl) (by kernel_rfl) (by kernel_rfl) (by kernel_rfl) (fun _ _ _ h => h) ?_ (by assumption) ?_
        · intro w9 h9; exact ex_neq_digB w9 rfl x lk (by kernel_rfl) (by kernel_rfl) HX32.out HL32.out HNE.out
        try simp only [Act.put, List.setIfInBounds_toArray, List.set_cons_zero, List.set_cons_succ]
        refine sqo_take (i := 6) (v := (.bool true)) (d := 61) rfl (by kernel_rfl) (by kernel_rfl) (by kernel_rfl) (by kernel_rfl) (by kernel_rfl) (fun _ _ _ h => h) ?_ (by assumption) ?_
        · intro w9 h9; kernel_rfl
        try simp only [Act.put, List.setIfInBounds_toArray, List.set_cons_zero, List.set_cons_succ]
        refine sqo_take (i := 7) (v := (.agg (u8s (rootF l)).toArray)) (d := 62) rfl (by kernel_rfl) (by kernel_rfl) (by kernel_rfl) (by kernel_rfl) (by kernel_rfl) (fun _ _ _ h => h) ?_ (by assumption) ?_
        · intro w9 h9; exact exec_load_agg rfl w3.heap.size 0 (by kernel_rfl) (u8s (rootF l)) _ (HRr.out w9 h9) Try.underlying25 rfl HRF.out.2.1
        try simp only [Act.put, List.setIfInBounds_toArray, List.set_cons_zero, List.set_cons_succ]
        refine sqo_take (i := 8) (v := (.slice A n c)) (d := 63) rfl (by kernel_rfl) (by kernel_rfl) (by kernel_rfl) (by kernel_rfl) (by kernel_rfl) (fun _ _ _ h => h) ?_ (by assumption) ?_
        · intro w9 h9; kernel_rfl
        try simp only [Act.put, List.setIfInBounds_toArray, List.set_cons_zero, List.set_cons_succ]
        refine sqo_take (i := 9) (v := (.int .i64 (n : Int))) (d := 64) rfl (by kernel_rfl) (by kernel_rfl) (by kernel_rfl) (by kernel_rfl) (by kernel_rfl) (fun _ _ _ h => h) ?_ (by assumption) ?_
        · intro w9 h9; kernel_rfl
        try simp only [Act.put, List.setIfInBounds_toArray, List.set_cons_zero, List.set_cons_succ]
        refine sqo_take (i := 10) (v := (.int .i64 (k : Int))) (d := 65) rfl (by kernel_rfl) (by kernel_rfl) (by kernel_rfl) (by kernel_rfl) (by kernel_rfl) (fun _ _ _ h => h) ?_ (by assumption) ?_
        · intro w9 h9; kernel_rfl
        try simp only [Act.put, List.setIfInBounds_toArray, List.set_cons_zero, List.set_cons_succ]
        refine sqo_take (i := 11) (v := (.agg (u8s x).toArray)) (d := 66) rfl (by kernel_rfl) (by kernel_rfl) (by kernel_rfl) (by kernel_rfl) (by kernel_rfl) (fun _ _ _ h => h) ?_ (by assumption) ?_
        · intro w9 h9; exact exec_load_agg rfl w.heap.size 0 (by kernel_rfl) (u8s x) _ (HXr.out w9 h9) Try.underlying25 rfl HXF.out.2.1
        try simp only [Act.put, List.setIfInBounds_toArray, List.set_cons_zero, List.set_cons_succ]
        refine sqo_take (i := 12) (v := (.slice AP nP cP)) (d := 67) rfl (by kernel_rfl) (by kernel_rfl) (by kernel_rfl) (by kernel_rfl) (by kernel_rfl) (fun _ _ _ h => h) ?_ (by assumption) ?_
        · intro w9 h9; kernel_rfl
        try simp only [Act.put, List.setIfInBounds_toArray, List.set_cons_zero, List.set_cons_succ]
        refine sqo_only (i := 13) rfl (by kernel_rfl) (by kernel_rfl) ?_
        have hr13 := fun (a₀ : Act) (o₀ : Oper) (K₀ : Act → World → Prop) (Q₀ : Exit → Act → World → Prop) => @sq_call Try.prog Q₀ a₀ o₀ w8.drew K₀ (Agg (.bool true) w8.drew) 13 #[.agg (u8s (rootF l)).toArray, .int .i64 (n : Int), .int .i64 (k : Int), .agg (u8s x).toArray, .slice AP nP cP] 68
        refine hr13 _ _ _ _ ?_ ?_ ?_ ?_
        · kernel_rfl
        · kernel_rfl
        · exact HIN1.out
        rintro e w10 ⟨rfl, f9⟩
        have hS10 := OldW.step hS8 f9
        have HT10 := Lib.hid (HT9.out.frD f9)
        clear f9
        refine ⟨_, rfl, hS10, ?_⟩
        clear hr13
        try simp only [Act.put, List.setIfInBounds_toArray, List.set_cons_zero, List.set_cons_succ]
        refine sqo_take (i := 14) (v := (.bool true)) (d := 69) rfl (by kernel_rfl) (by kernel_rfl) (by kernel_rfl) (by kernel_rfl) (by kernel_rfl) (fun _ _ _ h => h) ?_ (by assumption) ?_
        · intro w9 h9; kernel_rfl
        try simp only [Act.put, List.setIfInBounds_toArray, List.set_cons_zero, List.set_cons_succ]
        refine sqo_take (i := 15) (v := (.bool true)) (d := 70) rfl (by kernel_rfl) (by kernel_rfl) (by kernel_rfl) (by kernel_rfl) (by kernel_rfl) (fun _ _ _ h => h) ?_ (by assumption) ?_
        · intro w9 h9; kernel_rfl
        try simp only [Act.put, List.setIfInBounds_toArray, List.set_cons_zero, List.set_cons_succ]
        refine sqo_take (i := 16) (v := v1) (d := 71) rfl (by kernel_rfl) (by kernel_rfl) (by kernel_rfl) (by kernel_rfl) (by kernel_rfl) (fun _ _ _ h => h) ?_ (by assumption) ?_
        · intro w9 h9; kernel_rfl
        try simp only [Act.put, List.setIfInBounds_toArray, List.set_cons_zero, List.set_cons_succ]
        refine sqo_take (i := 17) (v := (.slice A n c)) (d := 72) rfl (by kernel_rfl) (by kernel_rfl) (by kernel_rfl) (by kernel_rfl) (by kernel_rfl) (fun _ _ _ h => h) ?_ (by assumption) ?_
        · intro w9 h9; kernel_rfl
        try simp only [Act.put, List.setIfInBounds_toArray, List.set_cons_zero, List.set_cons_succ]
        refine sqo_take (i := 18) (v := (.int .i64 (n : Int))) (d := 73) rfl (by kernel_rfl) (by kernel_rfl) (by kernel_rfl) (by kernel_rfl) (by kernel_rfl) (fun _ _ _ h => h) ?_ (by assumption) ?_
        · intro w9 h9; kernel_rfl
        try simp only [Act.put, List.setIfInBounds_toArray, List.set_cons_zero, List.set_cons_succ]
        refine sqo_take (i := 19) (v := (.int .i64 (k : Int))) (d := 74) rfl (by kernel_rfl) (by kernel_rfl) (by kernel_rfl) (by kernel_rfl) (by kernel_rfl) (fun _ _ _ h => h) ?_ (by assumption) ?_
        · intro w9 h9; kernel_rfl
        try simp only [Act.put, List.setIfInBounds_toArray, List.set_cons_zero, List.set_cons_succ]
        refine sqo_take (i := 20) (v := (.agg (u8s x).toArray)) (d := 75) rfl (by kernel_rfl) (by kernel_rfl) (by kernel_rfl) (by kernel_rfl) (by kernel_rfl) (fun _ _ _ h => h) ?_ (by assumption) ?_
        · intro w9 h9; exact exec_load_agg rfl w.heap.size 0 (by kernel_rfl) (u8s x) _ (HXr.out w9 h9) Try.underlying25 rfl HXF.out.2.1
        try simp only [Act.put, List.setIfInBounds_toArray, List.set_cons_zero, List.set_cons_succ]
        refine sqo_take (i := 21) (v := (.slice AP nP cP)) (d := 76) rfl (by kernel_rfl) (by kernel_rfl) (by kernel_rfl) (by kernel_rfl) (by kernel_rfl) (fun _ _ _ h => h) ?_ (by assumption) ?_
        · intro w9 h9; kernel_rfl
        try simp only [Act.put, List.setIfInBounds_toArray, List.set_cons_zero, List.set_cons_succ]
        refine sqo_only (i := 22) rfl (by kernel_rfl) (by kernel_rfl) ?_
        have hr22 := fun (a₀ : Act) (o₀ : Oper) (K₀ : Act → World → Prop) (Q₀ : Exit → Act → World → Prop) => @sq_call Try.prog Q₀ a₀ o₀ w10 K₀ (OwnT w10 v1.ownBlock.toList (ppN (n : Int) (k : Int) x P)) 16 #[.int .i64 (n : Int), .int .i64 (k : Int), .agg (u8s x).toArray, .slice AP nP cP] 77
        refine hr22 _ _ _ _ ?_ ?_ ?_ ?_
        · kernel_rfl
        · kernel_rfl
        · exact (pp_calls w10 v1.ownBlock.toList (fun y hy => (HT10.out.lt y (by simpa using hy)).2) (n : Int) (k : Int) x HX32.out AP nP cP P HNP.out HcP.out (HDP7.out.fr hS10) HP1.out)
        rintro e w11 ⟨v2, rfl, ht2, g11⟩
        have HT2 := Lib.hid ht2
        have HT11 := Lib.hid (HT10.out.frD g11)
        have hS11 := OldW.step hS10 g11
        clear ht2 g11
        refine ⟨_, rfl, hS11, ?_⟩
        clear hr22
        try simp only [Act.put, List.setIfInBounds_toArray, List.set_cons_zero, List.set_cons_succ]
        refine sqo_only (i := 23) rfl (by kernel_rfl) (by kernel_rfl) ?_
        have hr23 := fun (a₀ : Act) (o₀ : Oper) (K₀ : Act → World → Prop) (Q₀ : Exit → Act → World → Prop) (hd : o₀.dst = some 78) (ho : o₀.op = .call { callee := .builtin .append, args := #[.tmp 71, .tmp 77], argTypes := #[37, 37] }) (hs : a₀.eval (.tmp 71) = v1) (hx : a₀.eval (.tmp 77) = v2) => @sq_appT2 Q₀ o₀ a₀ w11 K₀ (.tmp 71) (.tmp 77) 78 hd ho w7.heap.size w10.heap.size v1 v2 [gq] v1.ownBlock.toList (ppN (n : Int) (k : Int) lk P) (ppN (n : Int) (k : Int) x P) hs HT11.out hx HT2.out (fun y hy => by simp [hy]) HLEN.out hS11.size
        refine hr23 _ _ _ _ ?_ ?_ ?_ ?_ ?_
        · kernel_rfl
        · kernel_rfl
        · kernel_rfl
        · kernel_rfl
        intro v3 w12 ht3 ht1 g12
        have hS12 : OldW w7 w12 := Fr.trans' hS11 g12 (fun y hy => by simp only [Option.mem_toList] at hy; exact .inr ((HT11.out.lt y hy).1))
        obtain ⟨A5, c5, rfl, hc5, hin5⟩ := ht3.toIn
        obtain ⟨M, hM⟩ : ∃ M, ((ppN (n : Int) (k : Int) lk P) ++ (ppN (n : Int) (k : Int) x P)).length = M := ⟨_, rfl⟩
        rw [hM]
        have HCC := Lib.hid (show Calls Try.prog 17 #[.slice A5 M c5] w12 (Agg (.bool true) w12) from (Clash_calls w12 A5 M c5 _ hM hin5 HTX.out (by rw [List.length_append] at hM; have := HLEN.out; have := HLEN2.out; omega)).mono fun e w' ⟨h1, h2⟩ => ⟨by rw [h1, HCLc.out], h2⟩)
        have HT12 := Lib.hid ht1
        clear hM hc5 hin5 ht3 ht1 g12 hr23
        refine ⟨hS12, ?_⟩
        try simp only [Act.put, List.setIfInBounds_toArray, List.set_cons_zero, List.set_cons_succ]
        refine sqo_only (i := 24) rfl (by kernel_rfl) (by kernel_rfl) ?_
        have hr24 := fun (a₀ : Act) (o₀ : Oper) (K₀ : Act → World → Prop) (Q₀ : Exit → Act → World → Prop) => @sq_call Try.prog Q₀ a₀ o₀ w12 K₀ (Agg (.bool true) w12) 17 #[.slice A5 M c5] 79
        refine hr24 _ _ _ _ ?_ ?_ ?_ ?_
        · kernel_rfl
        · kernel_rfl
        · exact HCC.out
        rintro e w13 ⟨rfl, f13⟩
        have hS13 := OldW.step hS12 f13
        have HT13 := Lib.hid (HT12.out.frD f13)
        clear f13
        refine ⟨_, rfl, hS13, ?_⟩
        clear hr24
        try simp only [Act.put, List.setIfInBounds_toArray, List.set_cons_zero, List.set_cons_succ]
        refine sqo_take (i := 25) (v := (.bool false)) (d := 80) rfl (by kernel_rfl) (by kernel_rfl) (by kernel_rfl) (by kernel_rfl) (by kernel_rfl) (fun _ _ _ h => h) ?_ (by assumption) ?_
        · intro w9 h9; kernel_rfl
        try simp only [Act.put, List.setIfInBounds_toArray, List.set_cons_zero, List.set_cons_succ]
        refine sqo_take (i := 26) (v := (.bool false)) (d := 81) rfl (by kernel_rfl) (by kernel_rfl) (by kernel_rfl) (by kernel_rfl) (by kernel_rfl) (fun _ _ _ h => h) ?_ (by assumption) ?_
        · intro w9 h9; kernel_rfl
        try simp only [Act.put, List.setIfInBounds_toArray, List.set_cons_zero, List.set_cons_succ]
        refine wpAnyH_done (by kernel_rfl) ?_ _
        go_wp2_with fail
        rw [HJ.out]
        have HIXQ := Lib.hid (fun w9 => (show (Instr.indexAt 22 (.slice (some ⟨gq, 0, none⟩) nP cq) (.int .i64 (j : Int))).run Try.prog w9 = .ok (.pointer (some ⟨gq, j * 32, none⟩)) w9 from by
          have := run_index_slice' (P := Try.prog) (t := 22) (size := 32) w9 Try.underlying22 dg_size (A := some ⟨gq, 0, none⟩) (n := nP) (c := cq) (j := j) rfl HJN.out
          rwa [Nat.zero_add] at this))
        have HDQ7 := Lib.hid (blk_dgs HPA.out HNP.out HBQ7.out HSZ.out HTK.out)
        have HCQ := Lib.hid (fun w9 (h9 : OldW w7 w9) r v (hv : (u8s y)[r]? = some v) => (show w9.cell? ⟨gq, j * 32 + r, none⟩ = some v from by
          have := (HDQ7.out.fr h9).at j y HPY.out r v hv
          rwa [Nat.zero_add] at this))
        have hT0 : OldW w7 w13.drew := OldW.step hS13 (Fr.refl [] w13).drew
        refine sqo_begin (w0 := w7) (by kernel_rfl) ?_
        refine sqo_take (i := 0) (v := (.slice (some ⟨gq, 0, none⟩) nP cq)) (d := 90) rfl (by kernel_rfl) (by kernel_rfl) (by kernel_rfl) (by kernel_rfl) (by kernel_rfl) (fun _ _ _ h => h) ?_ (by assumption) ?_
        · intro w9 h9; kernel_rfl
        try simp only [Act.put, List.setIfInBounds_toArray, List.set_cons_zero, List.set_cons_succ]
        refine sqo_take (i := 1) (v := (.int .i64 (j : Int))) (d := 91) rfl (by kernel_rfl) (by kernel_rfl) (by kernel_rfl) (by kernel_rfl) (by kernel_rfl) (fun _ _ _ h => h) ?_ (by assumption) ?_
        · intro w9 h9; kernel_rfl
        try simp only [Act.put, List.setIfInBounds_toArray, List.set_cons_zero, List.set_cons_succ]
        refine sqo_take (i := 2) (v := (.pointer (some ⟨gq, j * 32, none⟩))) (d := 92) rfl (by kernel_rfl) (by kernel_rfl) (by kernel_rfl) (by kernel_rfl) (by kernel_rfl) (fun _ _ _ h => h) ?_ (by assumption) ?_
        · intro w9 h9; exact ex_ixa rfl (by kernel_rfl) (by kernel_rfl) (HIXQ.out w9)
        try simp only [Act.put, List.setIfInBounds_toArray, List.set_cons_zero, List.set_cons_succ]
        refine sqo_take (i := 3) (v := (.agg (u8s y).toArray)) (d := 93) rfl (by kernel_rfl) (by kernel_rfl) (by kernel_rfl) (by kernel_rfl) (by kernel_rfl) (fun _ _ _ h => h) ?_ (by assumption) ?_
        · intro w9 h9; exact exec_load_agg rfl gq (j * 32) (by kernel_rfl) (u8s y) _ (HCQ.out w9 h9) Try.underlying25 rfl HYF.out.2.1
        try simp only [Act.put, List.setIfInBounds_toArray, List.set_cons_zero, List.set_cons_succ]
        refine sqo_take (i := 4) (v := (.agg (u8s x).toArray)) (d := 94) rfl (by kernel_rfl) (by kernel_rfl) (by kernel_rfl) (by kernel_rfl) (by kernel_rfl) (fun _ _ _ h => h) ?_ (by assumption) ?_
        · intro w9 h9; exact exec_load_agg rfl w.heap.size 0 (by kernel_rfl) (u8s x) _ (HXr.out w9 h9) Try.underlying25 rfl HXF.out.2.1
        try simp only [Act.put, List.setIfInBounds_toArray, List.set_cons_zero, List.set_cons_succ]
        refine sqo_take (i := 5) (v := (.bool false)) (d := 95) rfl (by kernel_rfl) (by kernel_rfl) (by kernel_rfl) (by kernel_rfl) (by kernel_rfl) (fun _ _ _ h => h) ?_ (by assumption) ?_
        · intro w9 h9; exact ex_eql_digB w9 rfl y x (by kernel_rfl) (by kernel_rfl) HY32.out HX32.out HYX.out
        try simp only [Act.put, List.setIfInBounds_toArray, List.set_cons_zero, List.set_cons_succ]
        refine wpAnyH_done (by kernel_rfl) ?_ _
        have HBQ9 := Lib.hid (HBQ7.out.fr hT0 (by simp))
        have HFIT := Lib.hid (show j * 32 + (u8s x).length ≤ cur.length from by rw [u8s_length, HX32.out]; have := HJN.out; have := HSZ.out; omega)
        go_wp2_with (first
          | go_big_skip
          | (refine wpList_wanted (v := .agg (u8s x).toArray) (by kernel_rfl) (exec_load_agg (ty := 25) (x := .tmp 8) rfl w.heap.size 0 rfl (u8s x) _ (HXr.out _ hT0) Try.underlying25 rfl HXF.out.2.1) ?_)
          | (refine wpList_wanted (v := .pointer (some ⟨gq, j * 32, none⟩)) (by kernel_rfl) (ex_ixa rfl rfl rfl (HIXQ.out _)) ?_)
          | (refine wpList_store_agg rfl 25 (.tmp 99) (.tmp 98) rfl gq (j * 32) rfl (u8s x) rfl cur 25 HBQ9.out HFIT.out (u8s_one _) HXF.out.2.1 ?_; obtain ⟨wS, hwS⟩ : ∃ W, w13.drew.setRow gq (splice cur (j * 32) (u8s x)).toArray = W := ⟨_, rfl⟩; rw [hwS];
              have HDQS := Lib.hid (show DgIn wS (some ⟨gq, 0, none⟩) (P.set j x) from hwS ▸ dgs_set HPA.out HNP.out HBQ9.out HSZ.out HTK.out HJN.out HX32.out);
              have FS5 := Lib.hid (show Fr [] w5 wS from hwS ▸ (F57.out.trans hT0).setRow (.inr HGB.out) _);
              have fgq := (show Fr [gq] w13.drew wS from hwS ▸ (Fr.refl [gq] w13.drew).setRow (.inl (by simp)) _);
              have HS7S := Lib.hid (Nat.le_trans hT0.size fgq.size);
              have HTS := Lib.hid ((HT13.out.frD (Fr.refl [] w13).drew).fr fgq (fun y hy => .inl hy) (fun y hy => by have h1 := (HT13.out.lt y hy).1; have h2 := HGLT.out; simp only [List.mem_singleton]; omega));
              clear hwS fgq))
        have HRs := Lib.hid (fun w9 (h9 : OldW w5 w9) => rd_row (HR5.out.fr h9 (by simp))); have HLs := Lib.hid (fun w9 (h9 : OldW w5 w9) => HCL.out w9 (F5.out.trans h9))
        have hV0 : Fr [] wS wS.drew := (Fr.refl [] wS).drew
        have hU0 : OldW w5 wS.drew := FS5.out.trans hV0
        have HT20 := Lib.hid (HTS.out.frD hV0)
        have HIN3 := Lib.hid (show Calls Try.prog 13 #[.agg (u8s (rootF l)).toArray, .int .i64 (n : Int), .int .i64 (k : Int), .agg (u8s lk).toArray, .slice (some ⟨gq, 0, none⟩) nP cq] wS.drew (Agg (.bool false) wS.drew) from by
          have := InPath_calls wS.drew (rootF l) (rootF_length _) (n : Int) (k : Int) lk HL32.out (some ⟨gq, 0, none⟩) _ cq (P.set j x) HNQ.out HCQ7.out (HDQS.out.fr hV0) HP1.out
          rwa [HIN2.out] at this)
        refine sqo_begin (w0 := w5) (by kernel_rfl) ?_
        refine sqo_take (i := 0) (v := (.agg (u8s (rootF l)).toArray)) (d := 100) rfl (by kernel_rfl) (by kernel_rfl) (by kernel_rfl) (by kernel_rfl) (by kernel_rfl) (fun _ _ _ h => h) ?_ (by assumption) ?_
        · intro w9 h9; exact exec_load_agg rfl w3.heap.size 0 (by kernel_rfl) (u8s (rootF l)) _ (HRs.out w9 h9) Try.underlying25 rfl HRF.out.2.1
        try simp only [Act.put, List.setIfInBounds_toArray, List.set_cons_zero, List.set_cons_succ]
        refine sqo_take (i := 1) (v := (.slice A n c)) (d := 101) rfl (by kernel_rfl) (by kernel_rfl) (by kernel_rfl) (by kernel_rfl) (by kernel_rfl) (fun _ _ _ h => h) ?_ (by assumption) ?_
        · intro w9 h9; kernel_rfl
        try simp only [Act.put, List.setIfInBounds_toArray, List.set_cons_zero, List.set_cons_succ]
        refine sqo_take (i := 2) (v := (.int .i64 (n : Int))) (d := 102) rfl (by kernel_rfl) (by kernel_rfl) (by kernel_rfl) (by kernel_rfl) (by kernel_rfl) (fun _ _ _ h => h) ?_ (by assumption) ?_
        · intro w9 h9; kernel_rfl
        try simp only [Act.put, List.setIfInBounds_toArray, List.set_cons_zero, List.set_cons_succ]
        refine sqo_take (i := 3) (v := (.int .i64 (k : Int))) (d := 103) rfl (by kernel_rfl) (by kernel_rfl) (by kernel_rfl) (by kernel_rfl) (by kernel_rfl) (fun _ _ _ h => h) ?_ (by assumption) ?_
        · intro w9 h9; kernel_rfl
        try simp only [Act.put, List.setIfInBounds_toArray, List.set_cons_zero, List.set_cons_succ]
        refine sqo_take (i := 4) (v := (.slice A n c)) (d := 104) rfl (by kernel_rfl) (by kernel_rfl) (by kernel_rfl) (by kernel_rfl) (by kernel_rfl) (fun _ _ _ h => h) ?_ (by assumption) ?_
        · intro w9 h9; kernel_rfl
        try simp only [Act.put, List.setIfInBounds_toArray, List.set_cons_zero, List.set_cons_succ]
        refine sqo_take (i := 5) (v := (.int .i64 (k : Int))) (d := 105) rfl (by kernel_rfl) (by kernel_rfl) (by kernel_rfl) (by kernel_rfl) (by kernel_rfl) (fun _ _ _ h => h) ?_ (by assumption) ?_
        · intro w9 h9; kernel_rfl
        try simp only [Act.put, List.setIfInBounds_toArray, List.set_cons_zero, List.set_cons_succ]
        refine sqo_take (i := 6) (v := (.pointer (some ⟨bA, oA + k * 32, none⟩))) (d := 106) rfl (by kernel_rfl) (by kernel_rfl) (by kernel_rfl) (by kernel_rfl) (by kernel_rfl) (fun _ _ _ h => h) ?_ (by assumption) ?_
        · intro w9 h9; exact ex_ixa rfl (by kernel_rfl) (by kernel_rfl) (HIX.out w9)
        try simp only [Act.put, List.setIfInBounds_toArray, List.set_cons_zero, List.set_cons_succ]
        refine sqo_take (i := 7) (v := (.agg (u8s lk).toArray)) (d := 107) rfl (by kernel_rfl) (by kernel_rfl) (by kernel_rfl) (by kernel_rfl) (by kernel_rfl) (fun _ _ _ h => h) ?_ (by assumption) ?_
        · intro w9 h9; exact exec_load_agg rfl bA (oA + k * 32) (by kernel_rfl) (u8s lk) _ (HLs.out w9 h9) Try.underlying25 rfl HLF.out.2.1
        try simp only [Act.put, List.setIfInBounds_toArray, List.set_cons_zero, List.set_cons_succ]
        refine sqo_take (i := 8) (v := (.slice (some ⟨gq, 0, none⟩) nP cq)) (d := 108) rfl (by kernel_rfl) (by kernel_rfl) (by kernel_rfl) (by kernel_rfl) (by kernel_rfl) (fun _ _ _ h => h) ?_ (by assumption) ?_
        · intro w9 h9; kernel_rfl
        try simp only [Act.put, List.setIfInBounds_toArray, List.set_cons_zero, List.set_cons_succ]
        refine sqo_only (i := 9) rfl (by kernel_rfl) (by kernel_rfl) ?_
        have hr9 := fun (a₀ : Act) (o₀ : Oper) (K₀ : Act → World → Prop) (Q₀ : Exit → Act → World → Prop) => @sq_call Try.prog Q₀ a₀ o₀ wS.drew K₀ (Agg (.bool false) wS.drew) 13 #[.agg (u8s (rootF l)).toArray, .int .i64 (n : Int), .int .i64 (k : Int), .agg (u8s lk).toArray, .slice (some ⟨gq, 0, none⟩) nP cq] 109
        refine hr9 _ _ _ _ ?_ ?_ ?_ ?_
        · kernel_rfl
        · kernel_rfl
        · exact HIN3.out
        rintro e w21 ⟨rfl, f9⟩
        have hU1 := OldW.step hU0 f9
        have hV1 := hV0.trans f9
        have HT21 := Lib.hid (HT20.out.frD f9)
        clear f9
        refine ⟨_, rfl, hU1, ?_⟩
        clear hr9
        try simp only [Act.put, List.setIfInBounds_toArray, List.set_cons_zero, List.set_cons_succ]
        refine sqo_take (i := 10) (v := (.bool true)) (d := 110) rfl (by kernel_rfl) (by kernel_rfl) (by kernel_rfl) (by kernel_rfl) (by kernel_rfl) (fun _ _ _ h => h) ?_ (by assumption) ?_
        · intro w9 h9; kernel_rfl
        try simp only [Act.put, List.setIfInBounds_toArray, List.set_cons_zero, List.set_cons_succ]
        refine sqo_take (i := 11) (v := (.bool true)) (d := 111) rfl (by kernel_rfl) (by kernel_rfl) (by kernel_rfl) (by kernel_rfl) (by kernel_rfl) (fun _ _ _ h => h) ?_ (by assumption) ?_
        · intro w9 h9; kernel_rfl
        try simp only [Act.put, List.setIfInBounds_toArray, List.set_cons_zero, List.set_cons_succ]
        refine sqo_pass (i := 12) (d := 112) rfl (by kernel_rfl) (by kernel_rfl) (by kernel_rfl) (by kernel_rfl) (by kernel_rfl) (fun _ _ _ h => h) (by assumption) ?_
        try simp only [Act.put, List.setIfInBounds_toArray, List.set_cons_zero, List.set_cons_succ]
        refine sqo_pass (i := 13) (d := 113) rfl (by kernel_rfl) (by kernel_rfl) (by kernel_rfl) (by kernel_rfl) (by kernel_rfl) (fun _ _ _ h => h) (by assumption) ?_
        try simp only [Act.put, List.setIfInBounds_toArray, List.set_cons_zero, List.set_cons_succ]
        refine sqo_pass (i := 14) (d := 114) rfl (by kernel_rfl) (by kernel_rfl) (by kernel_rfl) (by kernel_rfl) (by kernel_rfl) (fun _ _ _ h => h) (by assumption) ?_
        try simp only [Act.put, List.setIfInBounds_toArray, List.set_cons_zero, List.set_cons_succ]
        refine sqo_pass (i := 15) (d := 115) rfl (by kernel_rfl) (by kernel_rfl) (by kernel_rfl) (by kernel_rfl) (by kernel_rfl) (fun _ _ _ h => h) (by assumption) ?_
        try simp only [Act.put, List.setIfInBounds_toArray, List.set_cons_zero, List.set_cons_succ]
        refine sqo_pass (i := 16) (d := 116) rfl (by kernel_rfl) (by kernel_rfl) (by kernel_rfl) (by kernel_rfl) (by kernel_rfl) (fun _ _ _ h => h) (by assumption) ?_
        try simp only [Act.put, List.setIfInBounds_toArray, List.set_cons_zero, List.set_cons_succ]
        refine sqo_pass (i := 17) (d := 117) rfl (by kernel_rfl) (by kernel_rfl) (by kernel_rfl) (by kernel_rfl) (by kernel_rfl) (fun _ _ _ h => h) (by assumption) ?_
        try simp only [Act.put, List.setIfInBounds_toArray, List.set_cons_zero, List.set_cons_succ]
        refine sqo_pass (i := 18) (d := 118) rfl (by kernel_rfl) (by kernel_rfl) (by kernel_rfl) (by kernel_rfl) (by kernel_rfl) (fun _ _ _ h => h) (by assumption) ?_
        try simp only [Act.put, List.setIfInBounds_toArray, List.set_cons_zero, List.set_cons_succ]
        refine sqo_pass (i := 19) (d := 119) rfl (by kernel_rfl) (by kernel_rfl) (by kernel_rfl) (by kernel_rfl) (by kernel_rfl) (fun _ _ _ h => h) (by assumption) ?_
        try simp only [Act.put, List.setIfInBounds_toArray, List.set_cons_zero, List.set_cons_succ]
        refine sqo_pass (i := 20) (d := 120) rfl (by kernel_rfl) (by kernel_rfl) (by kernel_rfl) (by kernel_rfl) (by kernel_rfl) (fun _ _ _ h => h) (by assumption) ?_
        try simp only [Act.put, List.setIfInBounds_toArray, List.set_cons_zero, List.set_cons_succ]
        refine sqo_idle (i := 21) (d := 121) rfl (by kernel_rfl) (by kernel_rfl) (by kernel_rfl) (by assumption) ?_
        try simp only [Act.put, List.setIfInBounds_toArray, List.set_cons_zero, List.set_cons_succ]
        refine sqo_idle (i := 22) (d := 122) rfl (by kernel_rfl) (by kernel_rfl) (by kernel_rfl) (by assumption) ?_
        try simp only [Act.put, List.setIfInBounds_toArray, List.set_cons_zero, List.set_cons_succ]
        refine sqo_idle (i := 23) (d := 123) rfl (by kernel_rfl) (by kernel_rfl) (by kernel_rfl) (by assumption) ?_
        try simp only [Act.put, List.setIfInBounds_toArray, List.set_cons_zero, List.set_cons_succ]
        refine sqo_take (i := 24) (v := (.bool true)) (d := 124) rfl (by kernel_rfl) (by kernel_rfl) (by kernel_rfl) (by kernel_rfl) (by kernel_rfl) (fun _ _ _ h => h) ?_ (by assumption) ?_
        · intro w9 h9; kernel_rfl
        try simp only [Act.put, List.setIfInBounds_toArray, List.set_cons_zero, List.set_cons_succ]
        refine sqo_take (i := 25) (v := (.bool true)) (d := 10) rfl (by kernel_rfl) (by kernel_rfl) (by kernel_rfl) (by kernel_rfl) (by kernel_rfl) (fun _ _ _ h => h) ?_ (by assumption) ?_
        · intro w9 h9; kernel_rfl
        try simp only [Act.put, List.setIfInBounds_toArray, List.set_cons_zero, List.set_cons_succ]
        refine wpAnyH_done (by kernel_rfl) ?_ _
        go_wp2_with fail
        go_ret
        exact ⟨rfl, F5.out.trans hU1⟩
      | true =>
        have HIN2 := Lib.hid hin2
        have HCLb := Lib.hid (hclb hin2 (hsne hyx))
        clear hclb hsne hyx hin2
        go_enter Try.func4, Try.ntmps4
        go_wp2_with (first
          | go_big_skip
          | (refine box_agg rfl 25 (.tmp 3) rfl (u8s x).toArray rfl ?_; obtain ⟨w1, hw1⟩ : ∃ W, w.alloc (.cells (u8s x).toArray 25) = W := ⟨_, rfl⟩; rw [hw1]; have F1 := Lib.hid (show Fr [] w w1 from hw1 ▸ (Fr.refl [] w).alloc _); have HX1 := Lib.hid (show Blk w1 w.heap.size 25 (u8s x).toArray from hw1 ▸ Blk.new w _ _); clear hw1)
          | (go_at_call 6; (with_reducible refine (HAL.out w1).mono ?_); rintro e w2 ⟨rfl, f2⟩; have F2 := Lib.hid (F1.out.trans f2); have HX2 := Lib.hid (HX1.out.fr f2 (by simp)); clear f2))
        rw [HKK.out]
        go_wp2_with (first
          | (go_at_call 7; (refine (HRT.out w2 F2.out).mono ?_); rintro e w3 ⟨rfl, f3⟩; have F3 := Lib.hid (F2.out.trans f3); have HX3 := Lib.hid (HX2.out.fr f3 (by simp)); clear f3)
          | (refine wpList_alloc_agg rfl 25 rfl (zs 32).toArray arr32_zero ?_)
          | (refine wpList_store_agg rfl 25 (.tmp 12) (.tmp 36) rfl w3.heap.size 0 rfl (u8s (rootF l)) rfl (zs 32) 25 (Blk.new w3 _ _) HRF.out.1 (u8s_one _) HRF.out.2.1 ?_; rw [HRF.out.2.2]; obtain ⟨w4, hw4⟩ : ∃ W, (w3.alloc (.cells (zs 32).toArray 25)).setRow w3.heap.size (u8s (rootF l)).toArray = W := ⟨_, rfl⟩; rw [hw4];
              have f4 := (show Fr [] w3 w4 from hw4 ▸ ((Fr.refl [] w3).alloc _).setRow (.inr (Nat.le_refl _)) _); have F4 := Lib.hid (F3.out.trans f4); have HR4 := Lib.hid (show Blk w4 w3.heap.size 25 (u8s (rootF l)).toArray from hw4 ▸ (Blk.new w3 _ _).setRow_ _); have HX4 := Lib.hid (HX3.out.fr f4 (by simp)); clear hw4 f4)
          | (go_at_call 8; (refine (HPC.out w4 F4.out).mono ?_); rintro e w5 ⟨AP, cP, rfl, hcP, hDP, _, f5⟩; have HDP := Lib.hid hDP; have HcP := Lib.hid hcP; have F5 := Lib.hid (F4.out.trans f5); have HR5 := Lib.hid (HR4.out.fr f5 (by simp)); have HX5 := Lib.hid (HX4.out.fr f5 (by simp)); clear f5 hDP hcP)
          | (refine wpList_wanted (v := .slice (some ⟨w5.heap.size, 0, none⟩) 0 0) (by kernel_rfl) (ex_build_dg0 rfl w5) ?_; obtain ⟨w6, hw6⟩ : ∃ W, w5.alloc (.cells #[] 25) = W := ⟨_, rfl⟩; rw [hw6]; have F56 := Lib.hid (show Fr [] w5 w6 from hw6 ▸ (Fr.refl [] w5).alloc _); have HQ6 := Lib.hid (show w6.ownsRow w5.heap.size 25 32 (.slice (some ⟨w5.heap.size, 0, none⟩) 0 0) ([] : List (List UInt8)).length (([] : List (List UInt8)).flatMap u8s) from hw6 ▸ own_dg0 w5); clear hw6)
          | (at_builtin; refine wpList_appDgs rfl (.tmp 43) (.tmp 44) 45 rfl rfl w5.heap.size (.slice (some ⟨w5.heap.size, 0, none⟩) 0 0) rfl HQ6.out P HPA.out AP nP cP HNP.out rfl (HDP.out.fr F56.out) (by have := HNP.out; have := HP5.out; omega) F56.out.size ?_; intro vq w7 hq7 f7; have F57 := Lib.hid (Fr.trans' F56.out f7 (fun y hy => .inr (by simp [Value.ownBlock] at hy; omega)));
              obtain ⟨gq, cq, cur, rfl, hgb, hbq, hcq, hsz, htk⟩ := own_dgf hq7 HPOS.out; have HBQ7 := Lib.hid hbq; have HGB := Lib.hid hgb; have HCQ7 := Lib.hid hcq; have HSZ := Lib.hid hsz; have HTK := Lib.hid htk; have HGLT := Lib.hid hbq.lt; clear hgb hbq hcq hsz htk;
              have F07 := Lib.hid (F5.out.trans F57.out); have HX7 := Lib.hid (HX5.out.fr F57.out (by simp)); have HR7 := Lib.hid (HR5.out.fr F57.out (by simp)); have HDP7 := Lib.hid (HDP.out.fr F57.out); have HPP1 := Lib.hid (pp_calls w7 [gq] (fun y hy => by simp only [List.mem_singleton] at hy; rw [hy]; exact HGLT.out) (n : Int) (k : Int) lk HL32.out AP nP cP P HNP.out HcP.out HDP7.out HP1.out); clear f7 hq7)
          | (refine wpList_wanted (v := .pointer (some ⟨bA, oA + k * 32, none⟩)) (by kernel_rfl) (ex_ixa rfl rfl rfl (HIX.out w7)) ?_)
          | (refine wpList_wanted (v := .agg (u8s lk).toArray) (by kernel_rfl) (exec_load_agg (ty := 25) (x := .tmp 51) rfl bA (oA + k * 32) rfl (u8s lk) _ (HCL.out w7 F07.out) Try.underlying25 rfl HLF.out.2.1) ?_)
          | (go_at_call 16; (refine HPP1.out.mono ?_); rintro e w8 ⟨v1, rfl, ht8, f8⟩; have HT8 := Lib.hid ht8; have F8 := Lib.hid f8; clear ht8 f8))
        have HXr := Lib.hid (fun w9 (h9 : OldW w7 w9) => rd_row (HX7.out.fr h9 (by simp))); have HRr := Lib.hid (fun w9 (h9 : OldW w7 w9) => rd_row (HR7.out.fr h9 (by simp))); have HLr := Lib.hid (fun w9 (h9 : OldW w7 w9) => HCL.out w9 (F07.out.trans h9))
        have hS8 : OldW w7 w8.drew := F8.out.trans (Fr.refl [] w8).drew
        have HT9 := Lib.hid (HT8.out.frD (Fr.refl [] w8).drew)
        have HIN1 := Lib.hid (show Calls Try.prog 13 #[.agg (u8s (rootF l)).toArray, .int .i64 (n : Int), .int .i64 (k : Int), .agg (u8s x).toArray, .slice AP nP cP] w8.drew (Agg (.bool true) w8.drew) from by
          have := InPath_calls w8.drew (rootF l) (rootF_length _) (n : Int) (k : Int) x HX32.out AP _ cP P HNP.out HcP.out (HDP7.out.fr hS8) HP1.out
          rwa [HIN.out] at this)
        refine sqo_begin (w0 := w7) (by kernel_rfl) ?_
        refine sqo_take (i := 0) (v := (.agg (u8s x).toArray)) (d := 55) rfl (by kernel_rfl) (by kernel_rfl) (by kernel_rfl) (by kernel_rfl) (by kernel_rfl) (fun _ _ _ h => h) ?_ (by assumption) ?_
        · intro w9 h9; exact exec_load_agg rfl w.heap.size 0 (by kernel_rfl) (u8s x) _ (HXr.out w9 h9) Try.underlying25 rfl HXF.out.2.1
        try simp only [Act.put, List.setIfInBounds_toArray, List.set_cons_zero, List.set_cons_succ]
        refine sqo_take (i := 1) (v := (.slice A n c)) (d := 56) rfl (by kernel_rfl) (by kernel_rfl) (by kernel_rfl) (by kernel_rfl) (by kernel_rfl) (fun _ _ _ h => h) ?_ (by assumption) ?_
        · intro w9 h9; kernel_rfl
        try simp only [Act.put, List.setIfInBounds_toArray, List.set_cons_zero, List.set_cons_succ]
        refine sqo_take (i := 2) (v := (.int .i64 (k : Int))) (d := 57) rfl (by kernel_rfl) (by kernel_rfl) (by kernel_rfl) (by kernel_rfl) (by kernel_rfl) (fun _ _ _ h => h) ?_ (by assumption) ?_
        · intro w9 h9; kernel_rfl
        try simp only [Act.put, List.setIfInBounds_toArray, List.set_cons_zero, List.set_cons_succ]
        refine sqo_take (i := 3) (v := (.pointer (some ⟨bA, oA + k * 32, none⟩))) (d := 58) rfl (by kernel_rfl) (by kernel_rfl) (by kernel_rfl) (by kernel_rfl) (by kernel_rfl) (fun _ _ _ h => h) ?_ (by assumption) ?_
        · intro w9 h9; exact ex_ixa rfl (by kernel_rfl) (by kernel_rfl) (HIX.out w9)
        try simp only [Act.put, List.setIfInBounds_toArray, List.set_cons_zero, List.set_cons_succ]
        refine sqo_take (i := 4) (v := (.agg (u8s lk).toArray)) (d := 59) rfl (by kernel_rfl) (by kernel_rfl) (by kernel_rfl) (by kernel_rfl) (by kernel_rfl) (fun _ _ _ h => h) ?_ (by assumption) ?_
        · intro w9 h9; exact exec_load_agg rfl bA (oA + k * 32) (by kernel_rfl) (u8s lk) _ (HLr.out w9 h9) Try.underlying25 rfl HLF.out.2.1
        try simp only [Act.put, List.setIfInBounds_toArray, List.set_cons_zero, List.set_cons_succ]
        refine sqo_take (i := 5) (v := (.bool true)) (d := 60) rfl (by kernel_rfl) (by kernel_rfl) (by kernel_rfl) (by kernel_rfl) (by kernel_rfl) (fun _ _ _ h => h) ?_ (by assumption) ?_
        · intro w9 h9; exact ex_neq_digB w9 rfl x lk (by kernel_rfl) (by kernel_rfl) HX32.out HL32.out HNE.out
        try simp only [Act.put, List.setIfInBounds_toArray, List.set_cons_zero, List.set_cons_succ]
        refine sqo_take (i := 6) (v := (.bool true)) (d := 61) rfl (by kernel_rfl) (by kernel_rfl) (by kernel_rfl) (by kernel_rfl) (by kernel_rfl) (fun _ _ _ h => h) ?_ (by assumption) ?_
        · intro w9 h9; kernel_rfl
        try simp only [Act.put, List.setIfInBounds_toArray, List.set_cons_zero, List.set_cons_succ]
        refine sqo_take (i := 7) (v := (.agg (u8s (rootF l)).toArray)) (d := 62) rfl (by kernel_rfl) (by kernel_rfl) (by kernel_rfl) (by kernel_rfl) (by kernel_rfl) (fun _ _ _ h => h) ?_ (by assumption) ?_
        · intro w9 h9; exact exec_load_agg rfl w3.heap.size 0 (by kernel_rfl) (u8s (rootF l)) _ (HRr.out w9 h9) Try.underlying25 rfl HRF.out.2.1
        try simp only [Act.put, List.setIfInBounds_toArray, List.set_cons_zero, List.set_cons_succ]
        refine sqo_take (i := 8) (v := (.slice A n c)) (d := 63) rfl (by kernel_rfl) (by kernel_rfl) (by kernel_rfl) (by kernel_rfl) (by kernel_rfl) (fun _ _ _ h => h) ?_ (by assumption) ?_
        · intro w9 h9; kernel_rfl
        try simp only [Act.put, List.setIfInBounds_toArray, List.set_cons_zero, List.set_cons_succ]
        refine sqo_take (i := 9) (v := (.int .i64 (n : Int))) (d := 64) rfl (by kernel_rfl) (by kernel_rfl) (by kernel_rfl) (by kernel_rfl) (by kernel_rfl) (fun _ _ _ h => h) ?_ (by assumption) ?_
        · intro w9 h9; kernel_rfl
        try simp only [Act.put, List.setIfInBounds_toArray, List.set_cons_zero, List.set_cons_succ]
        refine sqo_take (i := 10) (v := (.int .i64 (k : Int))) (d := 65) rfl (by kernel_rfl) (by kernel_rfl) (by kernel_rfl) (by kernel_rfl) (by kernel_rfl) (fun _ _ _ h => h) ?_ (by assumption) ?_
        · intro w9 h9; kernel_rfl
        try simp only [Act.put, List.setIfInBounds_toArray, List.set_cons_zero, List.set_cons_succ]
        refine sqo_take (i := 11) (v := (.agg (u8s x).toArray)) (d := 66) rfl (by kernel_rfl) (by kernel_rfl) (by kernel_rfl) (by kernel_rfl) (by kernel_rfl) (fun _ _ _ h => h) ?_ (by assumption) ?_
        · intro w9 h9; exact exec_load_agg rfl w.heap.size 0 (by kernel_rfl) (u8s x) _ (HXr.out w9 h9) Try.underlying25 rfl HXF.out.2.1
        try simp only [Act.put, List.setIfInBounds_toArray, List.set_cons_zero, List.set_cons_succ]
        refine sqo_take (i := 12) (v := (.slice AP nP cP)) (d := 67) rfl (by kernel_rfl) (by kernel_rfl) (by kernel_rfl) (by kernel_rfl) (by kernel_rfl) (fun _ _ _ h => h) ?_ (by assumption) ?_
        · intro w9 h9; kernel_rfl
        try simp only [Act.put, List.setIfInBounds_toArray, List.set_cons_zero, List.set_cons_succ]
        refine sqo_only (i := 13) rfl (by kernel_rfl) (by kernel_rfl) ?_
        have hr13 := fun (a₀ : Act) (o₀ : Oper) (K₀ : Act → World → Prop) (Q₀ : Exit → Act → World → Prop) => @sq_call Try.prog Q₀ a₀ o₀ w8.drew K₀ (Agg (.bool true) w8.drew) 13 #[.agg (u8s (rootF l)).toArray, .int .i64 (n : Int), .int .i64 (k : Int), .agg (u8s x).toArray, .slice AP nP cP] 68
        refine hr13 _ _ _ _ ?_ ?_ ?_ ?_
        · kernel_rfl
        · kernel_rfl
        · exact HIN1.out
        rintro e w10 ⟨rfl, f9⟩
        have hS10 := OldW.step hS8 f9
        have HT10 := Lib.hid (HT9.out.frD f9)
        clear f9
        refine ⟨_, rfl, hS10, ?_⟩
        clear hr13
        try simp only [Act.put, List.setIfInBounds_toArray, List.set_cons_zero, List.set_cons_succ]
        refine sqo_take (i := 14) (v := (.bool true)) (d := 69) rfl (by kernel_rfl) (by kernel_rfl) (by kernel_rfl) (by kernel_rfl) (by kernel_rfl) (fun _ _ _ h => h) ?_ (by assumption) ?_
        · intro w9 h9; kernel_rfl
        try simp only [Act.put, List.setIfInBounds_toArray, List.set_cons_zero, List.set_cons_succ]
        refine sqo_take (i := 15) (v := (.bool true)) (d := 70) rfl (by kernel_rfl) (by kernel_rfl) (by kernel_rfl) (by kernel_rfl) (by kernel_rfl) (fun _ _ _ h => h) ?_ (by assumption) ?_
        · intro w9 h9; kernel_rfl
        try simp only [Act.put, List.setIfInBounds_toArray, List.set_cons_zero, List.set_cons_succ]
        refine sqo_take (i := 16) (v := v1) (d := 71) rfl (by kernel_rfl) (by kernel_rfl) (by kernel_rfl) (by kernel_rfl) (by kernel_rfl) (fun _ _ _ h => h) ?_ (by assumption) ?_
        · intro w9 h9; kernel_rfl
        try simp only [Act.put, List.setIfInBounds_toArray, List.set_cons_zero, List.set_cons_succ]
        refine sqo_take (i := 17) (v := (.slice A n c)) (d := 72) rfl (by kernel_rfl) (by kernel_rfl) (by kernel_rfl) (by kernel_rfl) (by kernel_rfl) (fun _ _ _ h => h) ?_ (by assumption) ?_
        · intro w9 h9; kernel_rfl
        try simp only [Act.put, List.setIfInBounds_toArray, List.set_cons_zero, List.set_cons_succ]
        refine sqo_take (i := 18) (v := (.int .i64 (n : Int))) (d := 73) rfl (by kernel_rfl) (by kernel_rfl) (by kernel_rfl) (by kernel_rfl) (by kernel_rfl) (fun _ _ _ h => h) ?_ (by assumption) ?_
        · intro w9 h9; kernel_rfl
        try simp only [Act.put, List.setIfInBounds_toArray, List.set_cons_zero, List.set_cons_succ]
        refine sqo_take (i := 19) (v := (.int .i64 (k : Int))) (d := 74) rfl (by kernel_rfl) (by kernel_rfl) (by kernel_rfl) (by kernel_rfl) (by kernel_rfl) (fun _ _ _ h => h) ?_ (by assumption) ?_
        · intro w9 h9; kernel_rfl
        try simp only [Act.put, List.setIfInBounds_toArray, List.set_cons_zero, List.set_cons_succ]
        refine sqo_take (i := 20) (v := (.agg (u8s x).toArray)) (d := 75) rfl (by kernel_rfl) (by kernel_rfl) (by kernel_rfl) (by kernel_rfl) (by kernel_rfl) (fun _ _ _ h => h) ?_ (by assumption) ?_
        · intro w9 h9; exact exec_load_agg rfl w.heap.size 0 (by kernel_rfl) (u8s x) _ (HXr.out w9 h9) Try.underlying25 rfl HXF.out.2.1
        try simp only [Act.put, List.setIfInBounds_toArray, List.set_cons_zero, List.set_cons_succ]
        refine sqo_take (i := 21) (v := (.slice AP nP cP)) (d := 76) rfl (by kernel_rfl) (by kernel_rfl) (by kernel_rfl) (by kernel_rfl) (by kernel_rfl) (fun _ _ _ h => h) ?_ (by assumption) ?_
        · intro w9 h9; kernel_rfl
        try simp only [Act.put, List.setIfInBounds_toArray, List.set_cons_zero, List.set_cons_succ]
        refine sqo_only (i := 22) rfl (by kernel_rfl) (by kernel_rfl) ?_
        have hr22 := fun (a₀ : Act) (o₀ : Oper) (K₀ : Act → World → Prop) (Q₀ : Exit → Act → World → Prop) => @sq_call Try.prog Q₀ a₀ o₀ w10 K₀ (OwnT w10 v1.ownBlock.toList (ppN (n : Int) (k : Int) x P)) 16 #[.int .i64 (n : Int), .int .i64 (k : Int), .agg (u8s x).toArray, .slice AP nP cP] 77
        refine hr22 _ _ _ _ ?_ ?_ ?_ ?_
        · kernel_rfl
        · kernel_rfl
        · exact (pp_calls w10 v1.ownBlock.toList (fun y hy => (HT10.out.lt y (by simpa using hy)).2) (n : Int) (k : Int) x HX32.out AP nP cP P HNP.out HcP.out (HDP7.out.fr hS10) HP1.out)
        rintro e w11 ⟨v2, rfl, ht2, g11⟩
        have HT2 := Lib.hid ht2
        have HT11 := Lib.hid (HT10.out.frD g11)
        have hS11 := OldW.step hS10 g11
        clear ht2 g11
        refine ⟨_, rfl, hS11, ?_⟩
        clear hr22
        try simp only [Act.put, List.setIfInBounds_toArray, List.set_cons_zero, List.set_cons_succ]
        refine sqo_only (i := 23) rfl (by kernel_rfl) (by kernel_rfl) ?_
        have hr23 := fun (a₀ : Act) (o₀ : Oper) (K₀ : Act → World → Prop) (Q₀ : Exit → Act → World → Prop) (hd : o₀.dst = some 78) (ho : o₀.op = .call { callee := .builtin .append, args := #[.tmp 71, .tmp 77], argTypes := #[37, 37] }) (hs : a₀.eval (.tmp 71) = v1) (hx : a₀.eval (.tmp 77) = v2) => @sq_appT2 Q₀ o₀ a₀ w11 K₀ (.tmp 71) (.tmp 77) 78 hd ho w7.heap.size w10.heap.size v1 v2 [gq] v1.ownBlock.toList (ppN (n : Int) (k : Int) lk P) (ppN (n : Int) (k : Int) x P) hs HT11.out hx HT2.out (fun y hy => by simp [hy]) HLEN.out hS11.size
        refine hr23 _ _ _ _ ?_ ?_ ?_ ?_ ?_
        · kernel_rfl
        · kernel_rfl
        · kernel_rfl
        · kernel_rfl
        intro v3 w12 ht3 ht1 g12
        have hS12 : OldW w7 w12 := Fr.trans' hS11 g12 (fun y hy => by simp only [Option.mem_toList] at hy; exact .inr ((HT11.out.lt y hy).1))
        obtain ⟨A5, c5, rfl, hc5, hin5⟩ := ht3.toIn
        obtain ⟨M, hM⟩ : ∃ M, ((ppN (n : Int) (k : Int) lk P) ++ (ppN (n : Int) (k : Int) x P)).length = M := ⟨_, rfl⟩
        rw [hM]
        have HCC := Lib.hid (show Calls Try.prog 17 #[.slice A5 M c5] w12 (Agg (.bool true) w12) from (Clash_calls w12 A5 M c5 _ hM hin5 HTX.out (by rw [List.length_append] at hM; have := HLEN.out; have := HLEN2.out; omega)).mono fun e w' ⟨h1, h2⟩ => ⟨by rw [h1, HCLc.out], h2⟩)
        have HT12 := Lib.hid ht1
        clear hM hc5 hin5 ht3 ht1 g12 hr23
        refine ⟨hS12, ?_⟩
        try simp only [Act.put, List.setIfInBounds_toArray, List.set_cons_zero, List.set_cons_succ]
        refine sqo_only (i := 24) rfl (by kernel_rfl) (by kernel_rfl) ?_
        have hr24 := fun (a₀ : Act) (o₀ : Oper) (K₀ : Act → World → Prop) (Q₀ : Exit → Act → World → Prop) => @sq_call Try.prog Q₀ a₀ o₀ w12 K₀ (Agg (.bool true) w12) 17 #[.slice A5 M c5] 79
        refine hr24 _ _ _ _ ?_ ?_ ?_ ?_
        · kernel_rfl
        · kernel_rfl
        · exact HCC.out
        rintro e w13 ⟨rfl, f13⟩
        have hS13 := OldW.step hS12 f13
        have HT13 := Lib.hid (HT12.out.frD f13)
        clear f13
        refine ⟨_, rfl, hS13, ?_⟩
        clear hr24
        try simp only [Act.put, List.setIfInBounds_toArray, List.set_cons_zero, List.set_cons_succ]
        refine sqo_take (i := 25) (v := (.bool false)) (d := 80) rfl (by kernel_rfl) (by kernel_rfl) (by kernel_rfl) (by kernel_rfl) (by kernel_rfl) (fun _ _ _ h => h) ?_ (by assumption) ?_
        · intro w9 h9; kernel_rfl
        try simp only [Act.put, List.setIfInBounds_toArray, List.set_cons_zero, List.set_cons_succ]
        refine sqo_take (i := 26) (v := (.bool false)) (d := 81) rfl (by kernel_rfl) (by kernel_rfl) (by kernel_rfl) (by kernel_rfl) (by kernel_rfl) (fun _ _ _ h => h) ?_ (by assumption) ?_
        · intro w9 h9; kernel_rfl
        try simp only [Act.put, List.setIfInBounds_toArray, List.set_cons_zero, List.set_cons_succ]
        refine wpAnyH_done (by kernel_rfl) ?_ _
        go_wp2_with fail
        rw [HJ.out]
        have HIXQ := Lib.hid (fun w9 => (show (Instr.indexAt 22 (.slice (some ⟨gq, 0, none⟩) nP cq) (.int .i64 (j : Int))).run Try.prog w9 = .ok (.pointer (some ⟨gq, j * 32, none⟩)) w9 from by
          have := run_index_slice' (P := Try.prog) (t := 22) (size := 32) w9 Try.underlying22 dg_size (A := some ⟨gq, 0, none⟩) (n := nP) (c := cq) (j := j) rfl HJN.out
          rwa [Nat.zero_add] at this))
        have HDQ7 := Lib.hid (blk_dgs HPA.out HNP.out HBQ7.out HSZ.out HTK.out)
        have HCQ := Lib.hid (fun w9 (h9 : OldW w7 w9) r v (hv : (u8s y)[r]? = some v) => (show w9.cell? ⟨gq, j * 32 + r, none⟩ = some v from by
          have := (HDQ7.out.fr h9).at j y HPY.out r v hv
          rwa [Nat.zero_add] at this))
        have hT0 : OldW w7 w13.drew := OldW.step hS13 (Fr.refl [] w13).drew
        refine sqo_begin (w0 := w7) (by kernel_rfl) ?_
        refine sqo_take (i := 0) (v := (.slice (some ⟨gq, 0, none⟩) nP cq)) (d := 90) rfl (by kernel_rfl) (by kernel_rfl) (by kernel_rfl) (by kernel_rfl) (by kernel_rfl) (fun _ _ _ h => h) ?_ (by assumption) ?_
        · intro w9 h9; kernel_rfl
        try simp only [Act.put, List.setIfInBounds_toArray, List.set_cons_zero, List.set_cons_succ]
        refine sqo_take (i := 1) (v := (.int .i64 (j : Int))) (d := 91) rfl (by kernel_rfl) (by kernel_rfl) (by kernel_rfl) (by kernel_rfl) (by kernel_rfl) (fun _ _ _ h => h) ?_ (by assumption) ?_
        · intro w9 h9; kernel_rfl
        try simp only [Act.put, List.setIfInBounds_toArray, List.set_cons_zero, List.set_cons_succ]
        refine sqo_take (i := 2) (v := (.pointer (some ⟨gq, j * 32, none⟩))) (d := 92) rfl (by kernel_rfl) (by kernel_rfl) (by kernel_rfl) (by kernel_rfl) (by kernel_rfl) (fun _ _ _ h => h) ?_ (by assumption) ?_
        · intro w9 h9; exact ex_ixa rfl (by kernel_rfl) (by kernel_rfl) (HIXQ.out w9)
        try simp only [Act.put, List.setIfInBounds_toArray, List.set_cons_zero, List.set_cons_succ]
        refine sqo_take (i := 3) (v := (.agg (u8s y).toArray)) (d := 93) rfl (by kernel_rfl) (by kernel_rfl) (by kernel_rfl) (by kernel_rfl) (by kernel_rfl) (fun _ _ _ h => h) ?_ (by assumption) ?_
        · intro w9 h9; exact exec_load_agg rfl gq (j * 32) (by kernel_rfl) (u8s y) _ (HCQ.out w9 h9) Try.underlying25 rfl HYF.out.2.1
        try simp only [Act.put, List.setIfInBounds_toArray, List.set_cons_zero, List.set_cons_succ]
        refine sqo_take (i := 4) (v := (.agg (u8s x).toArray)) (d := 94) rfl (by kernel_rfl) (by kernel_rfl) (by kernel_rfl) (by kernel_rfl) (by kernel_rfl) (fun _ _ _ h => h) ?_ (by assumption) ?_
        · intro w9 h9; exact exec_load_agg rfl w.heap.size 0 (by kernel_rfl) (u8s x) _ (HXr.out w9 h9) Try.underlying25 rfl HXF.out.2.1
        try simp only [Act.put, List.setIfInBounds_toArray, List.set_cons_zero, List.set_cons_succ]
        refine sqo_take (i := 5) (v := (.bool false)) (d := 95) rfl (by kernel_rfl) (by kernel_rfl) (by kernel_rfl) (by kernel_rfl) (by kernel_rfl) (fun _ _ _ h => h) ?_ (by assumption) ?_
        · intro w9 h9; exact ex_eql_digB w9 rfl y x (by kernel_rfl) (by kernel_rfl) HY32.out HX32.out HYX.out
        try simp only [Act.put, List.setIfInBounds_toArray, List.set_cons_zero, List.set_cons_succ]
        refine wpAnyH_done (by kernel_rfl) ?_ _
        have HBQ9 := Lib.hid (HBQ7.out.fr hT0 (by simp))
        have HFIT := Lib.hid (show j * 32 + (u8s x).length ≤ cur.length from by rw [u8s_length, HX32.out]; have := HJN.out; have := HSZ.out; omega)
        go_wp2_with (first
          | go_big_skip
          | (refine wpList_wanted (v := .agg (u8s x).toArray) (by kernel_rfl) (exec_load_agg (ty := 25) (x := .tmp 8) rfl w.heap.size 0 rfl (u8s x) _ (HXr.out _ hT0) Try.underlying25 rfl HXF.out.2.1) ?_)
          | (refine wpList_wanted (v := .pointer (some ⟨gq, j * 32, none⟩)) (by kernel_rfl) (ex_ixa rfl rfl rfl (HIXQ.out _)) ?_)
          | (refine wpList_store_agg rfl 25 (.tmp 99) (.tmp 98) rfl gq (j * 32) rfl (u8s x) rfl cur 25 HBQ9.out HFIT.out (u8s_one _) HXF.out.2.1 ?_; obtain ⟨wS, hwS⟩ : ∃ W, w13.drew.setRow gq (splice cur (j * 32) (u8s x)).toArray = W := ⟨_, rfl⟩; rw [hwS];
              have HDQS := Lib.hid (show DgIn wS (some ⟨gq, 0, none⟩) (P.set j x) from hwS ▸ dgs_set HPA.out HNP.out HBQ9.out HSZ.out HTK.out HJN.out HX32.out);
              have FS5 := Lib.hid (show Fr [] w5 wS from hwS ▸ (F57.out.trans hT0).setRow (.inr HGB.out) _);
              have fgq := (show Fr [gq] w13.drew wS from hwS ▸ (Fr.refl [gq] w13.drew).setRow (.inl (by simp)) _);
              have HS7S := Lib.hid (Nat.le_trans hT0.size fgq.size);
              have HTS := Lib.hid ((HT13.out.frD (Fr.refl [] w13).drew).fr fgq (fun y hy => .inl hy) (fun y hy => by have h1 := (HT13.out.lt y hy).1; have h2 := HGLT.out; simp only [List.mem_singleton]; omega));
              clear hwS fgq))
        have HRs := Lib.hid (fun w9 (h9 : OldW w5 w9) => rd_row (HR5.out.fr h9 (by simp))); have HLs := Lib.hid (fun w9 (h9 : OldW w5 w9) => HCL.out w9 (F5.out.trans h9))
        have hV0 : Fr [] wS wS.drew := (Fr.refl [] wS).drew
        have hU0 : OldW w5 wS.drew := FS5.out.trans hV0
        have HT20 := Lib.hid (HTS.out.frD hV0)
        have HIN3 := Lib.hid (show Calls Try.prog 13 #[.agg (u8s (rootF l)).toArray, .int .i64 (n : Int), .int .i64 (k : Int), .agg (u8s lk).toArray, .slice (some ⟨gq, 0, none⟩) nP cq] wS.drew (Agg (.bool true) wS.drew) from by
          have := InPath_calls wS.drew (rootF l) (rootF_length _) (n : Int) (k : Int) lk HL32.out (some ⟨gq, 0, none⟩) _ cq (P.set j x) HNQ.out HCQ7.out (HDQS.out.fr hV0) HP1.out
          rwa [HIN2.out] at this)
        refine sqo_begin (w0 := w5) (by kernel_rfl) ?_
        refine sqo_take (i := 0) (v := (.agg (u8s (rootF l)).toArray)) (d := 100) rfl (by kernel_rfl) (by kernel_rfl) (by kernel_rfl) (by kernel_rfl) (by kernel_rfl) (fun _ _ _ h => h) ?_ (by assumption) ?_
        · intro w9 h9; exact exec_load_agg rfl w3.heap.size 0 (by kernel_rfl) (u8s (rootF l)) _ (HRs.out w9 h9) Try.underlying25 rfl HRF.out.2.1
        try simp only [Act.put, List.setIfInBounds_toArray, List.set_cons_zero, List.set_cons_succ]
        refine sqo_take (i := 1) (v := (.slice A n c)) (d := 101) rfl (by kernel_rfl) (by kernel_rfl) (by kernel_rfl) (by kernel_rfl) (by kernel_rfl) (fun _ _ _ h => h) ?_ (by assumption) ?_
        · intro w9 h9; kernel_rfl
        try simp only [Act.put, List.setIfInBounds_toArray, List.set_cons_zero, List.set_cons_succ]
        refine sqo_take (i := 2) (v := (.int .i64 (n : Int))) (d := 102) rfl (by kernel_rfl) (by kernel_rfl) (by kernel_rfl) (by kernel_rfl) (by kernel_rfl) (fun _ _ _ h => h) ?_ (by assumption) ?_
        · intro w9 h9; kernel_rfl
        try simp only [Act.put, List.setIfInBounds_toArray, List.set_cons_zero, List.set_cons_succ]
        refine sqo_take (i := 3) (v := (.int .i64 (k : Int))) (d := 103) rfl (by kernel_rfl) (by kernel_rfl) (by kernel_rfl) (by kernel_rfl) (by kernel_rfl) (fun _ _ _ h => h) ?_ (by assumption) ?_
        · intro w9 h9; kernel_rfl
        try simp only [Act.put, List.setIfInBounds_toArray, List.set_cons_zero, List.set_cons_succ]
        refine sqo_take (i := 4) (v := (.slice A n c)) (d := 104) rfl (by kernel_rfl) (by kernel_rfl) (by kernel_rfl) (by kernel_rfl) (by kernel_rfl) (fun _ _ _ h => h) ?_ (by assumption) ?_
        · intro w9 h9; kernel_rfl
        try simp only [Act.put, List.setIfInBounds_toArray, List.set_cons_zero, List.set_cons_succ]
        refine sqo_take (i := 5) (v := (.int .i64 (k : Int))) (d := 105) rfl (by kernel_rfl) (by kernel_rfl) (by kernel_rfl) (by kernel_rfl) (by kernel_rfl) (fun _ _ _ h => h) ?_ (by assumption) ?_
        · intro w9 h9; kernel_rfl
        try simp only [Act.put, List.setIfInBounds_toArray, List.set_cons_zero, List.set_cons_succ]
        refine sqo_take (i := 6) (v := (.pointer (some ⟨bA, oA + k * 32, none⟩))) (d := 106) rfl (by kernel_rfl) (by kernel_rfl) (by kernel_rfl) (by kernel_rfl) (by kernel_rfl) (fun _ _ _ h => h) ?_ (by assumption) ?_
        · intro w9 h9; exact ex_ixa rfl (by kernel_rfl) (by kernel_rfl) (HIX.out w9)
        try simp only [Act.put, List.setIfInBounds_toArray, List.set_cons_zero, List.set_cons_succ]
        refine sqo_take (i := 7) (v := (.agg (u8s lk).toArray)) (d := 107) rfl (by kernel_rfl) (by kernel_rfl) (by kernel_rfl) (by kernel_rfl) (by kernel_rfl) (fun _ _ _ h => h) ?_ (by assumption) ?_
        · intro w9 h9; exact exec_load_agg rfl bA (oA + k * 32) (by kernel_rfl) (u8s lk) _ (HLs.out w9 h9) Try.underlying25 rfl HLF.out.2.1
        try simp only [Act.put, List.setIfInBounds_toArray, List.set_cons_zero, List.set_cons_succ]
        refine sqo_take (i := 8) (v := (.slice (some ⟨gq, 0, none⟩) nP cq)) (d := 108) rfl (by kernel_rfl) (by kernel_rfl) (by kernel_rfl) (by kernel_rfl) (by kernel_rfl) (fun _ _ _ h => h) ?_ (by assumption) ?_
        · intro w9 h9; kernel_rfl
        try simp only [Act.put, List.setIfInBounds_toArray, List.set_cons_zero, List.set_cons_succ]
        refine sqo_only (i := 9) rfl (by kernel_rfl) (by kernel_rfl) ?_
        have hr9 := fun (a₀ : Act) (o₀ : Oper) (K₀ : Act → World → Prop) (Q₀ : Exit → Act → World → Prop) => @sq_call Try.prog Q₀ a₀ o₀ wS.drew K₀ (Agg (.bool true) wS.drew) 13 #[.agg (u8s (rootF l)).toArray, .int .i64 (n : Int), .int .i64 (k : Int), .agg (u8s lk).toArray, .slice (some ⟨gq, 0, none⟩) nP cq] 109
        refine hr9 _ _ _ _ ?_ ?_ ?_ ?_
        · kernel_rfl
        · kernel_rfl
        · exact HIN3.out
        rintro e w21 ⟨rfl, f9⟩
        have hU1 := OldW.step hU0 f9
        have hV1 := hV0.trans f9
        have HT21 := Lib.hid (HT20.out.frD f9)
        clear f9
        refine ⟨_, rfl, hU1, ?_⟩
        clear hr9
        try simp only [Act.put, List.setIfInBounds_toArray, List.set_cons_zero, List.set_cons_succ]
        refine sqo_take (i := 10) (v := (.bool false)) (d := 110) rfl (by kernel_rfl) (by kernel_rfl) (by kernel_rfl) (by kernel_rfl) (by kernel_rfl) (fun _ _ _ h => h) ?_ (by assumption) ?_
        · intro w9 h9; kernel_rfl
        try simp only [Act.put, List.setIfInBounds_toArray, List.set_cons_zero, List.set_cons_succ]
        refine sqo_take (i := 11) (v := (.bool false)) (d := 111) rfl (by kernel_rfl) (by kernel_rfl) (by kernel_rfl) (by kernel_rfl) (by kernel_rfl) (fun _ _ _ h => h) ?_ (by assumption) ?_
        · intro w9 h9; kernel_rfl
        try simp only [Act.put, List.setIfInBounds_toArray, List.set_cons_zero, List.set_cons_succ]
        refine sqo_take (i := 12) (v := v1) (d := 112) rfl (by kernel_rfl) (by kernel_rfl) (by kernel_rfl) (by kernel_rfl) (by kernel_rfl) (fun _ _ _ h => h) ?_ (by assumption) ?_
        · intro w9 h9; kernel_rfl
        try simp only [Act.put, List.setIfInBounds_toArray, List.set_cons_zero, List.set_cons_succ]
        refine sqo_take (i := 13) (v := (.slice A n c)) (d := 113) rfl (by kernel_rfl) (by kernel_rfl) (by kernel_rfl) (by kernel_rfl) (by kernel_rfl) (fun _ _ _ h => h) ?_ (by assumption) ?_
        · intro w9 h9; kernel_rfl
        try simp only [Act.put, List.setIfInBounds_toArray, List.set_cons_zero, List.set_cons_succ]
        refine sqo_take (i := 14) (v := (.int .i64 (n : Int))) (d := 114) rfl (by kernel_rfl) (by kernel_rfl) (by kernel_rfl) (by kernel_rfl) (by kernel_rfl) (fun _ _ _ h => h) ?_ (by assumption) ?_
        · intro w9 h9; kernel_rfl
        try simp only [Act.put, List.setIfInBounds_toArray, List.set_cons_zero, List.set_cons_succ]
        refine sqo_take (i := 15) (v := (.int .i64 (k : Int))) (d := 115) rfl (by kernel_rfl) (by kernel_rfl) (by kernel_rfl) (by kernel_rfl) (by kernel_rfl) (fun _ _ _ h => h) ?_ (by assumption) ?_
        · intro w9 h9; kernel_rfl
        try simp only [Act.put, List.setIfInBounds_toArray, List.set_cons_zero, List.set_cons_succ]
        refine sqo_take (i := 16) (v := (.slice A n c)) (d := 116) rfl (by kernel_rfl) (by kernel_rfl) (by kernel_rfl) (by kernel_rfl) (by kernel_rfl) (fun _ _ _ h => h) ?_ (by assumption) ?_
        · intro w9 h9; kernel_rfl
        try simp only [Act.put, List.setIfInBounds_toArray, List.set_cons_zero, List.set_cons_succ]
        refine sqo_take (i := 17) (v := (.int .i64 (k : Int))) (d := 117) rfl (by kernel_rfl) (by kernel_rfl) (by kernel_rfl) (by kernel_rfl) (by kernel_rfl) (fun _ _ _ h => h) ?_ (by assumption) ?_
        · intro w9 h9; kernel_rfl
        try simp only [Act.put, List.setIfInBounds_toArray, List.set_cons_zero, List.set_cons_succ]
        refine sqo_take (i := 18) (v := (.pointer (some ⟨bA, oA + k * 32, none⟩))) (d := 118) rfl (by kernel_rfl) (by kernel_rfl) (by kernel_rfl) (by kernel_rfl) (by kernel_rfl) (fun _ _ _ h => h) ?_ (by assumption) ?_
        · intro w9 h9; exact ex_ixa rfl (by kernel_rfl) (by kernel_rfl) (HIX.out w9)
        try simp only [Act.put, List.setIfInBounds_toArray, List.set_cons_zero, List.set_cons_succ]
        refine sqo_take (i := 19) (v := (.agg (u8s lk).toArray)) (d := 119) rfl (by kernel_rfl) (by kernel_rfl) (by kernel_rfl) (by kernel_rfl) (by kernel_rfl) (fun _ _ _ h => h) ?_ (by assumption) ?_
        · intro w9 h9; exact exec_load_agg rfl bA (oA + k * 32) (by kernel_rfl) (u8s lk) _ (HLs.out w9 h9) Try.underlying25 rfl HLF.out.2.1
        try simp only [Act.put, List.setIfInBounds_toArray, List.set_cons_zero, List.set_cons_succ]
        refine sqo_take (i := 20) (v := (.slice (some ⟨gq, 0, none⟩) nP cq)) (d := 120) rfl (by kernel_rfl) (by kernel_rfl) (by kernel_rfl) (by kernel_rfl) (by kernel_rfl) (fun _ _ _ h => h) ?_ (by assumption) ?_
        · intro w9 h9; kernel_rfl
        try simp only [Act.put, List.setIfInBounds_toArray, List.set_cons_zero, List.set_cons_succ]
        refine sqo_only (i := 21) rfl (by kernel_rfl) (by kernel_rfl) ?_
        have hr21 := fun (a₀ : Act) (o₀ : Oper) (K₀ : Act → World → Prop) (Q₀ : Exit → Act → World → Prop) => @sq_call Try.prog Q₀ a₀ o₀ w21 K₀ (OwnT w21 v1.ownBlock.toList (ppN (n : Int) (k : Int) lk (P.set j x))) 16 #[.int .i64 (n : Int), .int .i64 (k : Int), .agg (u8s lk).toArray, .slice (some ⟨gq, 0, none⟩) nP cq] 121
        refine hr21 _ _ _ _ ?_ ?_ ?_ ?_
        · kernel_rfl
        · kernel_rfl
        · exact (pp_calls w21 v1.ownBlock.toList (fun y hy => (HT21.out.lt y (by simpa using hy)).2) (n : Int) (k : Int) lk HL32.out (some ⟨gq, 0, none⟩) nP cq (P.set j x) HNQ.out HCQ7.out (HDQS.out.fr hV1) HP1.out)
        rintro e w22 ⟨v2, rfl, ht2, g11⟩
        have HT2 := Lib.hid ht2
        have HT22 := Lib.hid (HT21.out.frD g11)
        have hU2 := OldW.step hU1 g11
        have hV2 := hV1.trans g11
        clear ht2 g11
        refine ⟨_, rfl, hU2, ?_⟩
        clear hr21
        try simp only [Act.put, List.setIfInBounds_toArray, List.set_cons_zero, List.set_cons_succ]
        refine sqo_only (i := 22) rfl (by kernel_rfl) (by kernel_rfl) ?_
        have hr22 := fun (a₀ : Act) (o₀ : Oper) (K₀ : Act → World → Prop) (Q₀ : Exit → Act → World → Prop) (hd : o₀.dst = some 122) (ho : o₀.op = .call { callee := .builtin .append, args := #[.tmp 112, .tmp 121], argTypes := #[37, 37] }) (hs : a₀.eval (.tmp 112) = v1) (hx : a₀.eval (.tmp 121) = v2) => @sq_appT2 Q₀ o₀ a₀ w22 K₀ (.tmp 112) (.tmp 121) 122 hd ho w7.heap.size w21.heap.size v1 v2 [gq] v1.ownBlock.toList (ppN (n : Int) (k : Int) lk P) (ppN (n : Int) (k : Int) lk (P.set j x)) hs HT22.out hx HT2.out (fun y hy => by simp [hy]) HLENb.out (Nat.le_trans HS7S.out hV2.size)
        refine hr22 _ _ _ _ ?_ ?_ ?_ ?_ ?_
        · kernel_rfl
        · kernel_rfl
        · kernel_rfl
        · kernel_rfl
        intro v3 w23 ht3 ht1 g12
        have hU3 : OldW w5 w23 := Fr.trans' hU2 g12 (fun y hy => by simp only [Option.mem_toList] at hy; exact .inr (Nat.le_trans F57.out.size (HT22.out.lt y hy).1))
        obtain ⟨A5, c5, rfl, hc5, hin5⟩ := ht3.toIn
        obtain ⟨M, hM⟩ : ∃ M, ((ppN (n : Int) (k : Int) lk P) ++ (ppN (n : Int) (k : Int) lk (P.set j x))).length = M := ⟨_, rfl⟩
        rw [hM]
        have HCC := Lib.hid (show Calls Try.prog 17 #[.slice A5 M c5] w23 (Agg (.bool true) w23) from (Clash_calls w23 A5 M c5 _ hM hin5 HTXb.out (by rw [List.length_append] at hM; have := HLENb.out; have := HLENb2.out; omega)).mono fun e w' ⟨h1, h2⟩ => ⟨by rw [h1, HCLb.out], h2⟩)
        have HT23 := Lib.hid ht1
        clear hM hc5 hin5 ht3 ht1 g12 hr22
        refine ⟨hU3, ?_⟩
        try simp only [Act.put, List.setIfInBounds_toArray, List.set_cons_zero, List.set_cons_succ]
        refine sqo_only (i := 23) rfl (by kernel_rfl) (by kernel_rfl) ?_
        have hr23 := fun (a₀ : Act) (o₀ : Oper) (K₀ : Act → World → Prop) (Q₀ : Exit → Act → World → Prop) => @sq_call Try.prog Q₀ a₀ o₀ w23 K₀ (Agg (.bool true) w23) 17 #[.slice A5 M c5] 123
        refine hr23 _ _ _ _ ?_ ?_ ?_ ?_
        · kernel_rfl
        · kernel_rfl
        · exact HCC.out
        rintro e w24 ⟨rfl, f13⟩
        have hU4 := OldW.step hU3 f13
        clear f13
        refine ⟨_, rfl, hU4, ?_⟩
        clear hr23
        try simp only [Act.put, List.setIfInBounds_toArray, List.set_cons_zero, List.set_cons_succ]
        refine sqo_take (i := 24) (v := (.bool true)) (d := 124) rfl (by kernel_rfl) (by kernel_rfl) (by kernel_rfl) (by kernel_rfl) (by kernel_rfl) (fun _ _ _ h => h) ?_ (by assumption) ?_
        · intro w9 h9; kernel_rfl
        try simp only [Act.put, List.setIfInBounds_toArray, List.set_cons_zero, List.set_cons_succ]
        refine sqo_take (i := 25) (v := (.bool true)) (d := 10) rfl (by kernel_rfl) (by kernel_rfl) (by kernel_rfl) (by kernel_rfl) (by kernel_rfl) (fun _ _ _ h => h) ?_ (by assumption) ?_
        · intro w9 h9; kernel_rfl
        try simp only [Act.put, List.setIfInBounds_toArray, List.set_cons_zero, List.set_cons_succ]
        refine wpAnyH_done (by kernel_rfl) ?_ _
        go_wp2_with fail
        go_ret
        exact ⟨rfl, F5.out.trans hU4⟩
end Go.Proofs.Ytmgbimdebhhckaa
