/- History's law: the document's examples. -/
import Derived.Test.YtmgbimdebhhckaaHistU
namespace Go.Proofs.Ytmgbimdebhhckaa
open Go.RowKit
set_option linter.unusedVariables false

/-- a list's own path holds, its own growth too -/
theorem inB_complete (l : List (List UInt8)) (n i : Nat) (x : List UInt8) (hn : l.length = n) (hi : i < n) (hb : n ≤ 1099511627776) (hx : l[i]? = some x) : inB (rootF l) (n : Int) (i : Int) x (pathF l i) = true := by
  obtain ⟨h1, h2, h3⟩ := up_complete l i (by omega)
  have e : l.getD i [] = x := by rw [List.getD_eq_getElem?_getD, hx]; rfl
  rw [hn, e] at h1 h2 h3
  rw [inB_yes _ _ _ _ _ (by unfold inOk; omega), h1, h2, h3]
  simp
theorem grB_complete (l : List (List UInt8)) (n m : Nat) (hn : l.length = n) (hm : m ≤ n) (h1 : 1 ≤ m) (hb : n ≤ 1099511627776) : grB (rootF (l.take m)) (m : Int) (rootF l) (n : Int) (restF l m true) = true := by
  obtain ⟨h2, h3, h4, h5⟩ := bo_complete l m true (rootF (l.take m)) h1 (by omega) (by omega) (fun _ => rfl)
  rw [hn] at h2 h3 h4 h5
  unfold grB
  rw [decide_eq_true (show grOk (m : Int) (n : Int) by unfold grOk; omega), if_neg (by omega), Int.toNat_natCast, Int.toNat_natCast, h2, h3, h4, h5]
  simp
theorem grB_zero (b : List UInt8) (n : Nat) (hb : n ≤ 1099511627776) : grB (rootF []) 0 b (n : Int) [] = true := by
  unfold grB
  rw [decide_eq_true (show grOk 0 (n : Int) by unfold grOk; omega), if_pos rfl, rootF_zero [] rfl]
  simp
def dg1 (x : UInt8) : List UInt8 := x :: List.replicate 31 0
def ls3 : List (List UInt8) := [dg1 1, dg1 2, dg1 3]
theorem dg1_length (x : UInt8) : (dg1 x).length = 32 := by simp [dg1]
theorem ls3_path0 : (pathF ls3 0).length = 2 := by
  rw [pathF, dif_neg (by decide), if_pos (by decide), List.length_append]
  rw [show ls3.take (hfN ls3.length) = [dg1 1, dg1 2] from rfl, pathF, dif_neg (by decide), if_pos (by decide), List.length_append, pathF, dif_pos (by decide)]
  rfl
theorem ls3_path2 : pathF ls3 2 = [rootF (ls3.take 2)] := by
  rw [pathF, dif_neg (by decide), if_neg (by decide), show ls3.drop (hfN ls3.length) = [dg1 3] from rfl, pathF, dif_pos (by decide)]
  rfl
theorem ls3_rest2 : restF ls3 2 true = [rootF (ls3.drop 2)] := by
  rw [restF, dif_neg (by decide), if_pos (by decide), show ls3.take (hfN ls3.length) = [dg1 1, dg1 2] from rfl, restF, dif_pos (by decide)]
  rfl
theorem ex_build1 {a : Act} {o : Oper} (x : UInt8) (hxx : x = 1 ∨ x = 2 ∨ x = 3) (ho : o.op = .build 25 #[(0, .const (.int .u8 (x.toNat : Int)))]) (w : World) : (execOp a.eval o).run Try.prog w = .ok (.value (.agg (u8s (dg1 x)).toArray)) w := by
  have h : (execOp a.eval { o with op := .build 25 #[(0, .const (.int .u8 (x.toNat : Int)))] }).run Try.prog w = .ok (.value (.agg (u8s (dg1 x)).toArray)) w := by
    rcases hxx with rfl | rfl | rfl <;> kernel_rfl
  rwa [← ho] at h
theorem run_build_dg3 (w : World) (r s t : List UInt8) (hr : r.length = 32) (hs : s.length = 32) (ht : t.length = 32) :
    (Instr.buildSlice 22 3 #[(0, .agg (u8s r).toArray), (1, .agg (u8s s).toArray), (2, .agg (u8s t).toArray)]).run Try.prog w = .ok (.slice (some ⟨w.heap.size, 0, none⟩) 3 3) (w.alloc (.cells (([r, s, t] : List (List UInt8)).flatMap u8s).toArray 25)) := by
  obtain ⟨i, hi, hz, hsz, hb⟩ := info_parts infoDg
  refine run_buildSlice w 22 25 3 _ _ i (.agg (zs 32).toArray) Try.underlying22 hi hz (by rw [hsz]; omega) (by rw [hsz]; omega) ?_
  rw [hsz]
  have h := Great.fill_whole (s := 32) (by omega) [.agg (u8s r).toArray, .agg (u8s s).toArray, .agg (u8s t).toArray] ((Array.range (3 * 32)).map ((Value.agg (zs 32).toArray).cells[· % (Value.agg (zs 32).toArray).cells.size]!)) (by simp [Value.cells, hr, hs, ht]) (by simp)
  simpa [Value.cells] using h
theorem ex_build_dg3 {a : Act} {o : Oper} {x y z : Operand} (ho : o.op = .buildSlice 22 3 #[(0, x), (1, y), (2, z)]) (w : World) (r s t : List UInt8) (hr : r.length = 32) (hs : s.length = 32) (ht : t.length = 32) (hx : a.eval x = .agg (u8s r).toArray) (hy : a.eval y = .agg (u8s s).toArray) (hz : a.eval z = .agg (u8s t).toArray) :
    (execOp a.eval o).run Try.prog w = .ok (.value (.slice (some ⟨w.heap.size, 0, none⟩) 3 3)) (w.alloc (.cells (([r, s, t] : List (List UInt8)).flatMap u8s).toArray 25)) := by
  unfold execOp
  simp [ho, hx, hy, hz, run_build_dg3 w r s t hr hs ht]
theorem blk_dg {w : World} {g : Nat} {ps : List (List UInt8)} (hp : ∀ p ∈ ps, p.length = 32) (h : Blk w g 25 (ps.flatMap u8s).toArray) : DgIn w (some ⟨g, 0, none⟩) ps := fun i d hd =>
  ⟨hp d (List.mem_of_getElem? hd), g, 0, rfl, h.lt, fun j v hv => by
    rw [h.cell, List.getElem?_toArray, Nat.zero_add]; exact flat32 ps hp i j d v hd hv⟩
theorem DgIn.at {w : World} {b off : Nat} {ds : List (List UInt8)} (h : DgIn w (some ⟨b, off, none⟩) ds) (i : Nat) (d : List UInt8) (hd : ds[i]? = some d) : ∀ j v, (u8s d)[j]? = some v → w.cell? ⟨b, off + i * 32 + j, none⟩ = some v := by
  obtain ⟨_, b', o', hA, _, hc⟩ := h i d hd
  injection hA with hA
  injection hA with h1 h2 _
  subst h1 h2
  exact hc
theorem DgIn.some_ {w : World} {A : Option Addr} {ds : List (List UInt8)} (h : DgIn w A ds) (hl : 0 < ds.length) : ∃ b off, A = some ⟨b, off, none⟩ := by
  obtain ⟨_, b, o, hA, _, _⟩ := h 0 ds[0] (by simp)
  exact ⟨b, o, hA⟩
/-- Path's and Growth's results, with the row told by its form -/
def OwnD3 (w : World) (r : List (List UInt8)) (n : Nat) (er : Int) (e : Ending) (w' : World) : Prop :=
  ∃ A c, e = .returned (.tuple #[.slice A n c, .int .i64 er]) ∧ n ≤ c ∧ DgIn w' A r ∧ (∀ b off, A = some ⟨b, off, none⟩ → w.heap.size ≤ b) ∧ Fr [] w w'
theorem OwnD2.to3 {w : World} {r : List (List UInt8)} {er : Int} {n : Nat} (hn : r.length = n) {e : Ending} {w' : World} (h : OwnD2 w (r, er) e w') : OwnD3 w r n er e w' := by
  obtain ⟨h1, v, rfl, ho, hf⟩ := h
  obtain ⟨A, c, rfl, hc, hD, hb⟩ := own_dg h1 ho rfl
  exact ⟨A, c, by rw [← hn], by rw [← hn]; exact hc, hD, hb, hf⟩
def AliveR (w : World) (e : Ending) (w' : World) : Prop := e = .returned (.bool true) ∧ Fr [] w w'
set_option maxHeartbeats 4000000 in
set_option maxRecDepth 100000 in
theorem alive18_calls (w : World) : Calls Try.prog 6 #[] w (AliveR w) := by
  obtain ⟨w1, hw1⟩ : ∃ W, w.alloc (.cells (ls3.flatMap u8s).toArray 25) = W := ⟨_, rfl⟩
  have f1 : Fr [] w w1 := hw1 ▸ (Fr.refl [] w).alloc _
  have hall : ∀ p ∈ ls3, p.length = 32 := fun p hp => by
    simp only [ls3, List.mem_cons, List.not_mem_nil, or_false] at hp
    rcases hp with rfl | rfl | rfl <;> exact dg1_length _
  have hl1 := blk_dg hall (show Blk w1 w.heap.size 25 (ls3.flatMap u8s).toArray from hw1 ▸ Blk.new w _ _)
  have HL1 := Lib.hid hl1; have F1 := Lib.hid f1
  have HP := Lib.hid ((Path_calls w1 _ 3 3 0 ls3 rfl (by omega) (by omega) hl1).mono fun e w' h => OwnD2.to3 (r := pathF ls3 0) (er := 0) ls3_path0 h)
  have HQ := Lib.hid (fun w2 (f2 : Fr [] w1 w2) => (Path_calls w2 _ 3 3 2 ls3 rfl (by omega) (by omega) (hl1.fr f2)).mono fun e w' h => OwnD2.to3 (r := pathF ls3 2) (er := 0) (n := 1) (by rw [ls3_path2]; rfl) h)
  have HG := Lib.hid (fun w2 (f2 : Fr [] w1 w2) => (Growth_calls w2 _ 3 3 2 ls3 rfl (by omega) (by omega) (hl1.fr f2)).mono fun e w' h => OwnD2.to3 (r := restF ls3 2 true) (er := 0) (n := 1) (by rw [ls3_rest2]; rfl) h)
  have HR := Lib.hid (fun w2 (f2 : Fr [] w1 w2) => root_calls 3 w2 _ 3 3 ls3 (by omega) rfl (by omega) (by omega) (hl1.fr f2))
  have HRF := Lib.hid (digF (rootF ls3) (rootF_length _))
  clear hl1 f1
  go_enter Try.func6, Try.ntmps6
  go_wp2_with (first
    | (refine wpList_wanted (v := .agg (u8s (dg1 1)).toArray) (by rfl) (ex_build1 1 (.inl rfl) rfl _) ?_)
    | (refine wpList_wanted (v := .agg (u8s (dg1 2)).toArray) (by rfl) (ex_build1 2 (.inr (.inl rfl)) rfl _) ?_)
    | (refine wpList_wanted (v := .agg (u8s (dg1 3)).toArray) (by rfl) (ex_build1 3 (.inr (.inr rfl)) rfl _) ?_)
    | (refine wpList_wanted (v := .slice (some ⟨w.heap.size, 0, none⟩) 3 3) (w' := w1) (by rfl) (by rw [← hw1]; exact ex_build_dg3 rfl w (dg1 1) (dg1 2) (dg1 3) (dg1_length _) (dg1_length _) (dg1_length _) rfl rfl rfl) ?_)
    | (go_at_call 8; (with_reducible refine HP.out.mono ?_); rintro e w2 ⟨AP, cP, rfl, hcP, hDP, _, f2⟩; have HDP := Lib.hid hDP; have F2 := Lib.hid f2; clear f2 hDP HP)
    | (go_at_call 8; (refine (HQ.out w2 F2.out).mono ?_); rintro e w3 ⟨AQ, cQ, rfl, hcQ, hDQ, _, f3⟩; have HDQ := Lib.hid hDQ; have F3 := Lib.hid (F2.out.trans f3); have HDP3 := Lib.hid (HDP.out.fr f3); clear f3 hDQ)
    | (go_at_call 9; (refine (HG.out w3 F3.out).mono ?_); rintro e w4 ⟨AG, cG, rfl, hcG, hDG, _, f4⟩; have HDG := Lib.hid hDG; have F4 := Lib.hid (F3.out.trans f4); have HDP4 := Lib.hid (HDP3.out.fr f4); have HDQ4 := Lib.hid (HDQ.out.fr f4); clear f4 hDG)
    | (go_at_call 7; (refine (HR.out w4 F4.out).mono ?_); rintro e w5 ⟨rfl, f5⟩; have F5 := Lib.hid (F4.out.trans f5); have HDP5 := Lib.hid (HDP4.out.fr f5); have HDQ5 := Lib.hid (HDQ4.out.fr f5); have HDG5 := Lib.hid (HDG.out.fr f5); clear f5)
    | (refine wpList_alloc_agg rfl 25 rfl (zs 32).toArray arr32_zero ?_)
    | (refine wpList_store_agg rfl 25 (.tmp 8) (.tmp 29) rfl w5.heap.size 0 rfl (u8s (rootF ls3)) rfl (zs 32) 25 (Blk.new w5 _ _) HRF.out.1 (u8s_one _) HRF.out.2.1 ?_; rw [HRF.out.2.2]; obtain ⟨w6, hw6⟩ : ∃ W, (w5.alloc (.cells (zs 32).toArray 25)).setRow w5.heap.size (u8s (rootF ls3)).toArray = W := ⟨_, rfl⟩; rw [hw6];
        have F56 := Lib.hid (show Fr [] w5 w6 from hw6 ▸ ((Fr.refl [] w5).alloc _).setRow (.inr (Nat.le_refl _)) _); have HR6 := Lib.hid (show Blk w6 w5.heap.size 25 (u8s (rootF ls3)).toArray from hw6 ▸ (Blk.new w5 _ _).setRow_ _); clear hw6))
  have F6 := Lib.hid (F5.out.trans F56.out)
  have HL := Lib.hid (HL1.out.fr F6.out)
  have hdq := HDQ5.out.fr F56.out
  have hdg := HDG5.out.fr F56.out
  have hdp := HDP5.out.fr F56.out
  rw [ls3_path2] at hdq
  obtain ⟨bQ, oQ, rfl⟩ := hdq.some_ (by simp)
  have hg3 := hdg
  rw [ls3_rest2] at hdg
  obtain ⟨bG, oG, rfl⟩ := hdg.some_ (by simp)
  have HIQ := Lib.hid (fun w9 => run_index_slice' (P := Try.prog) (t := 22) (size := 32) w9 Try.underlying22 dg_size (A := some ⟨bQ, oQ, none⟩) (n := 1) (c := cQ) (j := 0) rfl (by omega))
  have HIG := Lib.hid (fun w9 => run_index_slice' (P := Try.prog) (t := 22) (size := 32) w9 Try.underlying22 dg_size (A := some ⟨bG, oG, none⟩) (n := 1) (c := cG) (j := 0) rfl (by omega))
  have HIL := Lib.hid (fun w9 => run_index_slice' (P := Try.prog) (t := 22) (size := 32) w9 Try.underlying22 dg_size (A := some ⟨w.heap.size, 0, none⟩) (n := 3) (c := 3) (j := 0) rfl (by omega))
  have HCQ := Lib.hid (fun w9 (h9 : OldW w6 w9) => (show ∀ j v, (u8s (rootF (ls3.take 2)))[j]? = some v → w9.cell? ⟨bQ, oQ + j, none⟩ = some v from by simpa using (hdq.fr h9).at 0 _ rfl))
  have HCG := Lib.hid (fun w9 (h9 : OldW w6 w9) => (show ∀ j v, (u8s (rootF (ls3.drop 2)))[j]? = some v → w9.cell? ⟨bG, oG + j, none⟩ = some v from by simpa using (hdg.fr h9).at 0 _ rfl))
  have HCL := Lib.hid (fun w9 (h9 : OldW w6 w9) => (show ∀ j v, (u8s (dg1 1))[j]? = some v → w9.cell? ⟨w.heap.size, 0 + j, none⟩ = some v from by simpa using (HL.out.fr h9).at 0 _ rfl))
  have HCR := Lib.hid (fun w9 (h9 : OldW w6 w9) => rd_row (HR6.out.fr h9 (by simp)))
  have HD2 := Lib.hid (dig_size _ (rootF_length (ls3.take 2))); have HD1 := Lib.hid (dig_size _ (rootF_length (ls3.drop 2))); have HDR := Lib.hid (dig_size _ (rootF_length ls3)); have HDL := Lib.hid (dig_size _ (dg1_length 1))
  have HIN := Lib.hid (fun w7 (h7 : OldW w6 w7) => (show Calls Try.prog 13 #[.agg (u8s (rootF ls3)).toArray, .int .i64 3, .int .i64 0, .agg (u8s (dg1 1)).toArray, .slice AP 2 cP] w7 (Agg (.bool true) w7) from by
    have := InPath_calls w7 (rootF ls3) (rootF_length _) 3 0 (dg1 1) (dg1_length _) AP 2 cP (pathF ls3 0) ls3_path0 hcP (hdp.fr h7) (by omega)
    rwa [show inB (rootF ls3) 3 0 (dg1 1) (pathF ls3 0) = true from inB_complete ls3 3 0 _ rfl (by omega) (by omega) rfl] at this))
  have HGR := Lib.hid (fun w7 (h7 : OldW w6 w7) => (show Calls Try.prog 14 #[.agg (u8s (rootF (ls3.take 2))).toArray, .int .i64 2, .agg (u8s (rootF ls3)).toArray, .int .i64 3, .slice (some ⟨bG, oG, none⟩) 1 cG] w7 (Agg (.bool true) w7) from by
    have := Grows_calls w7 (rootF (ls3.take 2)) (rootF ls3) (rootF_length _) (rootF_length _) 2 3 (some ⟨bG, oG, none⟩) 1 cG (restF ls3 2 true) (by rw [ls3_rest2]; rfl) hcG (hg3.fr h7) (by omega)
    rwa [show grB (rootF (ls3.take 2)) 2 (rootF ls3) 3 (restF ls3 2 true) = true from grB_complete ls3 3 2 rfl (by omega) (by omega) (by omega)] at this))
  clear hdq hdg hdp hg3
  have hS6 : OldW w6 w6.drew := (Fr.refl [] w6).drew
  refine sqo_begin (w0 := w6) (by kernel_rfl) ?_
  refine sqo_take (i := 0) (v := (.int .i64 0)) (d := 30) rfl (by kernel_rfl) (by kernel_rfl) (by kernel_rfl) (by kernel_rfl) (by kernel_rfl) (fun _ _ _ h => h) ?_ (by assumption) ?_
  · intro w9 h9; kernel_rfl
  try simp only [Act.put, List.setIfInBounds_toArray, List.set_cons_zero, List.set_cons_succ]
  refine sqo_take (i := 1) (v := (.bool true)) (d := 31) rfl (by kernel_rfl) (by kernel_rfl) (by kernel_rfl) (by kernel_rfl) (by kernel_rfl) (fun _ _ _ h => h) ?_ (by assumption) ?_
  · intro w9 h9; kernel_rfl
  try simp only [Act.put, List.setIfInBounds_toArray, List.set_cons_zero, List.set_cons_succ]
  refine sqo_take (i := 2) (v := (.bool true)) (d := 32) rfl (by kernel_rfl) (by kernel_rfl) (by kernel_rfl) (by kernel_rfl) (by kernel_rfl) (fun _ _ _ h => h) ?_ (by assumption) ?_
  · intro w9 h9; kernel_rfl
  try simp only [Act.put, List.setIfInBounds_toArray, List.set_cons_zero, List.set_cons_succ]
  refine sqo_take (i := 3) (v := (.int .i64 0)) (d := 33) rfl (by kernel_rfl) (by kernel_rfl) (by kernel_rfl) (by kernel_rfl) (by kernel_rfl) (fun _ _ _ h => h) ?_ (by assumption) ?_
  · intro w9 h9; kernel_rfl
  try simp only [Act.put, List.setIfInBounds_toArray, List.set_cons_zero, List.set_cons_succ]
  refine sqo_take (i := 4) (v := (.bool true)) (d := 34) rfl (by kernel_rfl) (by kernel_rfl) (by kernel_rfl) (by kernel_rfl) (by kernel_rfl) (fun _ _ _ h => h) ?_ (by assumption) ?_
  · intro w9 h9; kernel_rfl
  try simp only [Act.put, List.setIfInBounds_toArray, List.set_cons_zero, List.set_cons_succ]
  refine sqo_take (i := 5) (v := (.bool true)) (d := 35) rfl (by kernel_rfl) (by kernel_rfl) (by kernel_rfl) (by kernel_rfl) (by kernel_rfl) (fun _ _ _ h => h) ?_ (by assumption) ?_
  · intro w9 h9; kernel_rfl
  try simp only [Act.put, List.setIfInBounds_toArray, List.set_cons_zero, List.set_cons_succ]
  refine sqo_take (i := 6) (v := (.bool true)) (d := 36) rfl (by kernel_rfl) (by kernel_rfl) (by kernel_rfl) (by kernel_rfl) (by kernel_rfl) (fun _ _ _ h => h) ?_ (by assumption) ?_
  · intro w9 h9; kernel_rfl
  try simp only [Act.put, List.setIfInBounds_toArray, List.set_cons_zero, List.set_cons_succ]
  refine sqo_take (i := 7) (v := (.int .i64 0)) (d := 37) rfl (by kernel_rfl) (by kernel_rfl) (by kernel_rfl) (by kernel_rfl) (by kernel_rfl) (fun _ _ _ h => h) ?_ (by assumption) ?_
  · intro w9 h9; kernel_rfl
  try simp only [Act.put, List.setIfInBounds_toArray, List.set_cons_zero, List.set_cons_succ]
  refine sqo_take (i := 8) (v := (.bool true)) (d := 38) rfl (by kernel_rfl) (by kernel_rfl) (by kernel_rfl) (by kernel_rfl) (by kernel_rfl) (fun _ _ _ h => h) ?_ (by assumption) ?_
  · intro w9 h9; kernel_rfl
  try simp only [Act.put, List.setIfInBounds_toArray, List.set_cons_zero, List.set_cons_succ]
  refine sqo_take (i := 9) (v := (.bool true)) (d := 39) rfl (by kernel_rfl) (by kernel_rfl) (by kernel_rfl) (by kernel_rfl) (by kernel_rfl) (fun _ _ _ h => h) ?_ (by assumption) ?_
  · intro w9 h9; kernel_rfl
  try simp only [Act.put, List.setIfInBounds_toArray, List.set_cons_zero, List.set_cons_succ]
  refine sqo_take (i := 10) (v := (.bool true)) (d := 40) rfl (by kernel_rfl) (by kernel_rfl) (by kernel_rfl) (by kernel_rfl) (by kernel_rfl) (fun _ _ _ h => h) ?_ (by assumption) ?_
  · intro w9 h9; kernel_rfl
  try simp only [Act.put, List.setIfInBounds_toArray, List.set_cons_zero, List.set_cons_succ]
  refine sqo_take (i := 11) (v := (.slice AP 2 cP)) (d := 41) rfl (by kernel_rfl) (by kernel_rfl) (by kernel_rfl) (by kernel_rfl) (by kernel_rfl) (fun _ _ _ h => h) ?_ (by assumption) ?_
  · intro w9 h9; kernel_rfl
  try simp only [Act.put, List.setIfInBounds_toArray, List.set_cons_zero, List.set_cons_succ]
  refine sqo_take (i := 12) (v := (.int .i64 (2 : Int))) (d := 42) rfl (by kernel_rfl) (by kernel_rfl) (by kernel_rfl) (by kernel_rfl) (by kernel_rfl) (fun _ _ _ h => h) ?_ (by assumption) ?_
  · intro w9 h9; kernel_rfl
  try simp only [Act.put, List.setIfInBounds_toArray, List.set_cons_zero, List.set_cons_succ]
  refine sqo_take (i := 13) (v := (.bool true)) (d := 43) rfl (by kernel_rfl) (by kernel_rfl) (by kernel_rfl) (by kernel_rfl) (by kernel_rfl) (fun _ _ _ h => h) ?_ (by assumption) ?_
  · intro w9 h9; kernel_rfl
  try simp only [Act.put, List.setIfInBounds_toArray, List.set_cons_zero, List.set_cons_succ]
  refine sqo_take (i := 14) (v := (.bool true)) (d := 44) rfl (by kernel_rfl) (by kernel_rfl) (by kernel_rfl) (by kernel_rfl) (by kernel_rfl) (fun _ _ _ h => h) ?_ (by assumption) ?_
  · intro w9 h9; kernel_rfl
  try simp only [Act.put, List.setIfInBounds_toArray, List.set_cons_zero, List.set_cons_succ]
  refine sqo_take (i := 15) (v := (.bool true)) (d := 45) rfl (by kernel_rfl) (by kernel_rfl) (by kernel_rfl) (by kernel_rfl) (by kernel_rfl) (fun _ _ _ h => h) ?_ (by assumption) ?_
  · intro w9 h9; kernel_rfl
  try simp only [Act.put, List.setIfInBounds_toArray, List.set_cons_zero, List.set_cons_succ]
  refine sqo_take (i := 16) (v := (.slice (some ⟨bQ, oQ, none⟩) 1 cQ)) (d := 46) rfl (by kernel_rfl) (by kernel_rfl) (by kernel_rfl) (by kernel_rfl) (by kernel_rfl) (fun _ _ _ h => h) ?_ (by assumption) ?_
  · intro w9 h9; kernel_rfl
  try simp only [Act.put, List.setIfInBounds_toArray, List.set_cons_zero, List.set_cons_succ]
  refine sqo_take (i := 17) (v := (.int .i64 (1 : Int))) (d := 47) rfl (by kernel_rfl) (by kernel_rfl) (by kernel_rfl) (by kernel_rfl) (by kernel_rfl) (fun _ _ _ h => h) ?_ (by assumption) ?_
  · intro w9 h9; kernel_rfl
  try simp only [Act.put, List.setIfInBounds_toArray, List.set_cons_zero, List.set_cons_succ]
  refine sqo_take (i := 18) (v := (.bool true)) (d := 48) rfl (by kernel_rfl) (by kernel_rfl) (by kernel_rfl) (by kernel_rfl) (by kernel_rfl) (fun _ _ _ h => h) ?_ (by assumption) ?_
  · intro w9 h9; kernel_rfl
  try simp only [Act.put, List.setIfInBounds_toArray, List.set_cons_zero, List.set_cons_succ]
  refine sqo_take (i := 19) (v := (.bool true)) (d := 49) rfl (by kernel_rfl) (by kernel_rfl) (by kernel_rfl) (by kernel_rfl) (by kernel_rfl) (fun _ _ _ h => h) ?_ (by assumption) ?_
  · intro w9 h9; kernel_rfl
  try simp only [Act.put, List.setIfInBounds_toArray, List.set_cons_zero, List.set_cons_succ]
  refine sqo_take (i := 20) (v := (.bool true)) (d := 50) rfl (by kernel_rfl) (by kernel_rfl) (by kernel_rfl) (by kernel_rfl) (by kernel_rfl) (fun _ _ _ h => h) ?_ (by assumption) ?_
  · intro w9 h9; kernel_rfl
  try simp only [Act.put, List.setIfInBounds_toArray, List.set_cons_zero, List.set_cons_succ]
  refine sqo_take (i := 21) (v := (.slice (some ⟨bG, oG, none⟩) 1 cG)) (d := 51) rfl (by kernel_rfl) (by kernel_rfl) (by kernel_rfl) (by kernel_rfl) (by kernel_rfl) (fun _ _ _ h => h) ?_ (by assumption) ?_
  · intro w9 h9; kernel_rfl
  try simp only [Act.put, List.setIfInBounds_toArray, List.set_cons_zero, List.set_cons_succ]
  refine sqo_take (i := 22) (v := (.int .i64 (1 : Int))) (d := 52) rfl (by kernel_rfl) (by kernel_rfl) (by kernel_rfl) (by kernel_rfl) (by kernel_rfl) (fun _ _ _ h => h) ?_ (by assumption) ?_
  · intro w9 h9; kernel_rfl
  try simp only [Act.put, List.setIfInBounds_toArray, List.set_cons_zero, List.set_cons_succ]
  refine sqo_take (i := 23) (v := (.bool true)) (d := 53) rfl (by kernel_rfl) (by kernel_rfl) (by kernel_rfl) (by kernel_rfl) (by kernel_rfl) (fun _ _ _ h => h) ?_ (by assumption) ?_
  · intro w9 h9; kernel_rfl
  try simp only [Act.put, List.setIfInBounds_toArray, List.set_cons_zero, List.set_cons_succ]
  refine sqo_take (i := 24) (v := (.bool true)) (d := 54) rfl (by kernel_rfl) (by kernel_rfl) (by kernel_rfl) (by kernel_rfl) (by kernel_rfl) (fun _ _ _ h => h) ?_ (by assumption) ?_
  · intro w9 h9; kernel_rfl
  try simp only [Act.put, List.setIfInBounds_toArray, List.set_cons_zero, List.set_cons_succ]
  refine sqo_take (i := 25) (v := (.bool true)) (d := 55) rfl (by kernel_rfl) (by kernel_rfl) (by kernel_rfl) (by kernel_rfl) (by kernel_rfl) (fun _ _ _ h => h) ?_ (by assumption) ?_
  · intro w9 h9; kernel_rfl
  try simp only [Act.put, List.setIfInBounds_toArray, List.set_cons_zero, List.set_cons_succ]
  refine sqo_take (i := 26) (v := (.slice (some ⟨bQ, oQ, none⟩) 1 cQ)) (d := 56) rfl (by kernel_rfl) (by kernel_rfl) (by kernel_rfl) (by kernel_rfl) (by kernel_rfl) (fun _ _ _ h => h) ?_ (by assumption) ?_
  · intro w9 h9; kernel_rfl
  try simp only [Act.put, List.setIfInBounds_toArray, List.set_cons_zero, List.set_cons_succ]
  refine sqo_take (i := 27) (v := (.pointer (some ⟨bQ, oQ, none⟩))) (d := 57) rfl (by kernel_rfl) (by kernel_rfl) (by kernel_rfl) (by kernel_rfl) (by kernel_rfl) (fun _ _ _ h => h) ?_ (by assumption) ?_
  · intro w9 h9; exact ex_ixa rfl (by kernel_rfl) (by kernel_rfl) (HIQ.out w9)
  try simp only [Act.put, List.setIfInBounds_toArray, List.set_cons_zero, List.set_cons_succ]
  refine sqo_take (i := 28) (v := (.agg (u8s (rootF (ls3.take 2))).toArray)) (d := 58) rfl (by kernel_rfl) (by kernel_rfl) (by kernel_rfl) (by kernel_rfl) (by kernel_rfl) (fun _ _ _ h => h) ?_ (by assumption) ?_
  · intro w9 h9; exact exec_load_agg rfl bQ oQ (by kernel_rfl) (u8s (rootF (ls3.take 2))) _ (HCQ.out w9 h9) Try.underlying25 rfl HD2.out
  try simp only [Act.put, List.setIfInBounds_toArray, List.set_cons_zero, List.set_cons_succ]
  refine sqo_take (i := 29) (v := (.slice (some ⟨w.heap.size, 0, none⟩) 3 3)) (d := 59) rfl (by kernel_rfl) (by kernel_rfl) (by kernel_rfl) (by kernel_rfl) (by kernel_rfl) (fun _ _ _ h => h) ?_ (by assumption) ?_
  · intro w9 h9; kernel_rfl
  try simp only [Act.put, List.setIfInBounds_toArray, List.set_cons_zero, List.set_cons_succ]
  refine sqo_take (i := 30) (v := (.slice (some ⟨w.heap.size, 0, none⟩) 2 3)) (d := 60) rfl (by kernel_rfl) (by kernel_rfl) (by kernel_rfl) (by kernel_rfl) (by kernel_rfl) (fun _ _ _ h => h) ?_ (by assumption) ?_
  · intro w9 h9; kernel_rfl
  try simp only [Act.put, List.setIfInBounds_toArray, List.set_cons_zero, List.set_cons_succ]
  refine sqo_only (i := 31) rfl (by kernel_rfl) (by kernel_rfl) ?_
  have hr31 := fun (a₀ : Act) (o₀ : Oper) (K₀ : Act → World → Prop) (Q₀ : Exit → Act → World → Prop) => @sq_call Try.prog Q₀ a₀ o₀ w6.drew K₀ (Agg (.agg (u8s (rootF (ls3.take 2))).toArray) w6.drew) 7 #[.slice (some ⟨w.heap.size, 0, none⟩) 2 3] 61
  refine hr31 _ _ _ _ ?_ ?_ ?_ ?_
  · kernel_rfl
  · kernel_rfl
  · exact (root_calls 2 w6.drew _ 2 3 (ls3.take 2) (by omega) rfl (by omega) (by omega) ((HL.out.fr hS6).take 2))
  rintro e w7 ⟨rfl, f9⟩
  have hS7 := OldW.step hS6 f9
  clear f9
  refine ⟨_, rfl, hS7, ?_⟩
  clear hr31
  try simp only [Act.put, List.setIfInBounds_toArray, List.set_cons_zero, List.set_cons_succ]
  refine sqo_take (i := 32) (v := (.bool true)) (d := 62) rfl (by kernel_rfl) (by kernel_rfl) (by kernel_rfl) (by kernel_rfl) (by kernel_rfl) (fun _ _ _ h => h) ?_ (by assumption) ?_
  · intro w9 h9; exact ex_eql_digB w9 rfl (rootF (ls3.take 2)) (rootF (ls3.take 2)) (by kernel_rfl) (by kernel_rfl) (rootF_length _) (rootF_length _) (beq_self_eq_true _)
  try simp only [Act.put, List.setIfInBounds_toArray, List.set_cons_zero, List.set_cons_succ]
  refine sqo_take (i := 33) (v := (.bool true)) (d := 63) rfl (by kernel_rfl) (by kernel_rfl) (by kernel_rfl) (by kernel_rfl) (by kernel_rfl) (fun _ _ _ h => h) ?_ (by assumption) ?_
  · intro w9 h9; kernel_rfl
  try simp only [Act.put, List.setIfInBounds_toArray, List.set_cons_zero, List.set_cons_succ]
  refine sqo_take (i := 34) (v := (.bool true)) (d := 64) rfl (by kernel_rfl) (by kernel_rfl) (by kernel_rfl) (by kernel_rfl) (by kernel_rfl) (fun _ _ _ h => h) ?_ (by assumption) ?_
  · intro w9 h9; kernel_rfl
  try simp only [Act.put, List.setIfInBounds_toArray, List.set_cons_zero, List.set_cons_succ]
  refine sqo_take (i := 35) (v := (.slice (some ⟨bG, oG, none⟩) 1 cG)) (d := 65) rfl (by kernel_rfl) (by kernel_rfl) (by kernel_rfl) (by kernel_rfl) (by kernel_rfl) (fun _ _ _ h => h) ?_ (by assumption) ?_
  · intro w9 h9; kernel_rfl
  try simp only [Act.put, List.setIfInBounds_toArray, List.set_cons_zero, List.set_cons_succ]
  refine sqo_take (i := 36) (v := (.pointer (some ⟨bG, oG, none⟩))) (d := 66) rfl (by kernel_rfl) (by kernel_rfl) (by kernel_rfl) (by kernel_rfl) (by kernel_rfl) (fun _ _ _ h => h) ?_ (by assumption) ?_
  · intro w9 h9; exact ex_ixa rfl (by kernel_rfl) (by kernel_rfl) (HIG.out w9)
  try simp only [Act.put, List.setIfInBounds_toArray, List.set_cons_zero, List.set_cons_succ]
  refine sqo_take (i := 37) (v := (.agg (u8s (rootF (ls3.drop 2))).toArray)) (d := 67) rfl (by kernel_rfl) (by kernel_rfl) (by kernel_rfl) (by kernel_rfl) (by kernel_rfl) (fun _ _ _ h => h) ?_ (by assumption) ?_
  · intro w9 h9; exact exec_load_agg rfl bG oG (by kernel_rfl) (u8s (rootF (ls3.drop 2))) _ (HCG.out w9 h9) Try.underlying25 rfl HD1.out
  try simp only [Act.put, List.setIfInBounds_toArray, List.set_cons_zero, List.set_cons_succ]
  refine sqo_take (i := 38) (v := (.slice (some ⟨w.heap.size, 0, none⟩) 3 3)) (d := 68) rfl (by kernel_rfl) (by kernel_rfl) (by kernel_rfl) (by kernel_rfl) (by kernel_rfl) (fun _ _ _ h => h) ?_ (by assumption) ?_
  · intro w9 h9; kernel_rfl
  try simp only [Act.put, List.setIfInBounds_toArray, List.set_cons_zero, List.set_cons_succ]
  refine sqo_take (i := 39) (v := (.slice (some ⟨w.heap.size, 64, none⟩) 1 1)) (d := 69) rfl (by kernel_rfl) (by kernel_rfl) (by kernel_rfl) (by kernel_rfl) (by kernel_rfl) (fun _ _ _ h => h) ?_ (by assumption) ?_
  · intro w9 h9; kernel_rfl
  try simp only [Act.put, List.setIfInBounds_toArray, List.set_cons_zero, List.set_cons_succ]
  refine sqo_only (i := 40) rfl (by kernel_rfl) (by kernel_rfl) ?_
  have hr40 := fun (a₀ : Act) (o₀ : Oper) (K₀ : Act → World → Prop) (Q₀ : Exit → Act → World → Prop) => @sq_call Try.prog Q₀ a₀ o₀ w7 K₀ (Agg (.agg (u8s (rootF (ls3.drop 2))).toArray) w7) 7 #[.slice (some ⟨w.heap.size, 64, none⟩) 1 1] 70
  refine hr40 _ _ _ _ ?_ ?_ ?_ ?_
  · kernel_rfl
  · kernel_rfl
  · exact (root_calls 1 w7 _ 1 1 (ls3.drop 2) (by omega) rfl (by omega) (by omega) ((HL.out.fr hS7).drop 2))
  rintro e w8 ⟨rfl, f9⟩
  have hS8 := OldW.step hS7 f9
  clear f9
  refine ⟨_, rfl, hS8, ?_⟩
  clear hr40
  try simp only [Act.put, List.setIfInBounds_toArray, List.set_cons_zero, List.set_cons_succ]
  refine sqo_take (i := 41) (v := (.bool true)) (d := 71) rfl (by kernel_rfl) (by kernel_rfl) (by kernel_rfl) (by kernel_rfl) (by kernel_rfl) (fun _ _ _ h => h) ?_ (by assumption) ?_
  · intro w9 h9; exact ex_eql_digB w9 rfl (rootF (ls3.drop 2)) (rootF (ls3.drop 2)) (by kernel_rfl) (by kernel_rfl) (rootF_length _) (rootF_length _) (beq_self_eq_true _)
  try simp only [Act.put, List.setIfInBounds_toArray, List.set_cons_zero, List.set_cons_succ]
  refine sqo_take (i := 42) (v := (.bool true)) (d := 72) rfl (by kernel_rfl) (by kernel_rfl) (by kernel_rfl) (by kernel_rfl) (by kernel_rfl) (fun _ _ _ h => h) ?_ (by assumption) ?_
  · intro w9 h9; kernel_rfl
  try simp only [Act.put, List.setIfInBounds_toArray, List.set_cons_zero, List.set_cons_succ]
  refine sqo_take (i := 43) (v := (.bool true)) (d := 73) rfl (by kernel_rfl) (by kernel_rfl) (by kernel_rfl) (by kernel_rfl) (by kernel_rfl) (fun _ _ _ h => h) ?_ (by assumption) ?_
  · intro w9 h9; kernel_rfl
  try simp only [Act.put, List.setIfInBounds_toArray, List.set_cons_zero, List.set_cons_succ]
  refine sqo_take (i := 44) (v := (.agg (u8s (rootF ls3)).toArray)) (d := 74) rfl (by kernel_rfl) (by kernel_rfl) (by kernel_rfl) (by kernel_rfl) (by kernel_rfl) (fun _ _ _ h => h) ?_ (by assumption) ?_
  · intro w9 h9; exact exec_load_agg rfl w5.heap.size 0 (by kernel_rfl) (u8s (rootF ls3)) _ (HCR.out w9 h9) Try.underlying25 rfl HDR.out
  try simp only [Act.put, List.setIfInBounds_toArray, List.set_cons_zero, List.set_cons_succ]
  refine sqo_take (i := 45) (v := (.slice (some ⟨w.heap.size, 0, none⟩) 3 3)) (d := 75) rfl (by kernel_rfl) (by kernel_rfl) (by kernel_rfl) (by kernel_rfl) (by kernel_rfl) (fun _ _ _ h => h) ?_ (by assumption) ?_
  · intro w9 h9; kernel_rfl
  try simp only [Act.put, List.setIfInBounds_toArray, List.set_cons_zero, List.set_cons_succ]
  refine sqo_take (i := 46) (v := (.pointer (some ⟨w.heap.size, 0, none⟩))) (d := 76) rfl (by kernel_rfl) (by kernel_rfl) (by kernel_rfl) (by kernel_rfl) (by kernel_rfl) (fun _ _ _ h => h) ?_ (by assumption) ?_
  · intro w9 h9; exact ex_ixa rfl (by kernel_rfl) (by kernel_rfl) (HIL.out w9)
  try simp only [Act.put, List.setIfInBounds_toArray, List.set_cons_zero, List.set_cons_succ]
  refine sqo_take (i := 47) (v := (.agg (u8s (dg1 1)).toArray)) (d := 77) rfl (by kernel_rfl) (by kernel_rfl) (by kernel_rfl) (by kernel_rfl) (by kernel_rfl) (fun _ _ _ h => h) ?_ (by assumption) ?_
  · intro w9 h9; exact exec_load_agg rfl w.heap.size 0 (by kernel_rfl) (u8s (dg1 1)) _ (HCL.out w9 h9) Try.underlying25 rfl HDL.out
  try simp only [Act.put, List.setIfInBounds_toArray, List.set_cons_zero, List.set_cons_succ]
  refine sqo_take (i := 48) (v := (.slice AP 2 cP)) (d := 78) rfl (by kernel_rfl) (by kernel_rfl) (by kernel_rfl) (by kernel_rfl) (by kernel_rfl) (fun _ _ _ h => h) ?_ (by assumption) ?_
  · intro w9 h9; kernel_rfl
  try simp only [Act.put, List.setIfInBounds_toArray, List.set_cons_zero, List.set_cons_succ]
  refine sqo_only (i := 49) rfl (by kernel_rfl) (by kernel_rfl) ?_
  have hr49 := fun (a₀ : Act) (o₀ : Oper) (K₀ : Act → World → Prop) (Q₀ : Exit → Act → World → Prop) => @sq_call Try.prog Q₀ a₀ o₀ w8 K₀ (Agg (.bool true) w8) 13 #[.agg (u8s (rootF ls3)).toArray, .int .i64 3, .int .i64 0, .agg (u8s (dg1 1)).toArray, .slice AP 2 cP] 79
  refine hr49 _ _ _ _ ?_ ?_ ?_ ?_
  · kernel_rfl
  · kernel_rfl
  · exact (HIN.out w8 hS8)
  rintro e w9 ⟨rfl, f9⟩
  have hS9 := OldW.step hS8 f9
  clear f9
  refine ⟨_, rfl, hS9, ?_⟩
  clear hr49
  try simp only [Act.put, List.setIfInBounds_toArray, List.set_cons_zero, List.set_cons_succ]
  refine sqo_take (i := 50) (v := (.bool true)) (d := 80) rfl (by kernel_rfl) (by kernel_rfl) (by kernel_rfl) (by kernel_rfl) (by kernel_rfl) (fun _ _ _ h => h) ?_ (by assumption) ?_
  · intro w9 h9; kernel_rfl
  try simp only [Act.put, List.setIfInBounds_toArray, List.set_cons_zero, List.set_cons_succ]
  refine sqo_take (i := 51) (v := (.bool true)) (d := 81) rfl (by kernel_rfl) (by kernel_rfl) (by kernel_rfl) (by kernel_rfl) (by kernel_rfl) (fun _ _ _ h => h) ?_ (by assumption) ?_
  · intro w9 h9; kernel_rfl
  try simp only [Act.put, List.setIfInBounds_toArray, List.set_cons_zero, List.set_cons_succ]
  refine sqo_take (i := 52) (v := (.slice (some ⟨w.heap.size, 0, none⟩) 3 3)) (d := 82) rfl (by kernel_rfl) (by kernel_rfl) (by kernel_rfl) (by kernel_rfl) (by kernel_rfl) (fun _ _ _ h => h) ?_ (by assumption) ?_
  · intro w9 h9; kernel_rfl
  try simp only [Act.put, List.setIfInBounds_toArray, List.set_cons_zero, List.set_cons_succ]
  refine sqo_take (i := 53) (v := (.slice (some ⟨w.heap.size, 0, none⟩) 2 3)) (d := 83) rfl (by kernel_rfl) (by kernel_rfl) (by kernel_rfl) (by kernel_rfl) (by kernel_rfl) (fun _ _ _ h => h) ?_ (by assumption) ?_
  · intro w9 h9; kernel_rfl
  try simp only [Act.put, List.setIfInBounds_toArray, List.set_cons_zero, List.set_cons_succ]
  refine sqo_take (i := 55) (v := (.agg (u8s (rootF ls3)).toArray)) (d := 85) rfl (by kernel_rfl) (by kernel_rfl) (by kernel_rfl) (by kernel_rfl) (by kernel_rfl) (fun _ _ _ h => h) ?_ (by assumption) ?_
  · intro w9 h9; exact exec_load_agg rfl w5.heap.size 0 (by kernel_rfl) (u8s (rootF ls3)) _ (HCR.out w9 h9) Try.underlying25 rfl HDR.out
  try simp only [Act.put, List.setIfInBounds_toArray, List.set_cons_zero, List.set_cons_succ]
  refine sqo_take (i := 56) (v := (.slice (some ⟨bG, oG, none⟩) 1 cG)) (d := 86) rfl (by kernel_rfl) (by kernel_rfl) (by kernel_rfl) (by kernel_rfl) (by kernel_rfl) (fun _ _ _ h => h) ?_ (by assumption) ?_
  · intro w9 h9; kernel_rfl
  try simp only [Act.put, List.setIfInBounds_toArray, List.set_cons_zero, List.set_cons_succ]
  refine sqo_only (i := 54) rfl (by kernel_rfl) (by kernel_rfl) ?_
  have hr54 := fun (a₀ : Act) (o₀ : Oper) (K₀ : Act → World → Prop) (Q₀ : Exit → Act → World → Prop) => @sq_call Try.prog Q₀ a₀ o₀ w9 K₀ (Agg (.agg (u8s (rootF (ls3.take 2))).toArray) w9) 7 #[.slice (some ⟨w.heap.size, 0, none⟩) 2 3] 84
  refine hr54 _ _ _ _ ?_ ?_ ?_ ?_
  · kernel_rfl
  · kernel_rfl
  · exact (root_calls 2 w9 _ 2 3 (ls3.take 2) (by omega) rfl (by omega) (by omega) ((HL.out.fr hS9).take 2))
  rintro e w11 ⟨rfl, f9⟩
  have hS11 := OldW.step hS9 f9
  clear f9
  refine ⟨_, rfl, hS11, ?_⟩
  clear hr54
  try simp only [Act.put, List.setIfInBounds_toArray, List.set_cons_zero, List.set_cons_succ]
  refine sqo_only (i := 57) rfl (by kernel_rfl) (by kernel_rfl) ?_
  have hr57 := fun (a₀ : Act) (o₀ : Oper) (K₀ : Act → World → Prop) (Q₀ : Exit → Act → World → Prop) => @sq_call Try.prog Q₀ a₀ o₀ w11 K₀ (Agg (.bool true) w11) 14 #[.agg (u8s (rootF (ls3.take 2))).toArray, .int .i64 2, .agg (u8s (rootF ls3)).toArray, .int .i64 3, .slice (some ⟨bG, oG, none⟩) 1 cG] 87
  refine hr57 _ _ _ _ ?_ ?_ ?_ ?_
  · kernel_rfl
  · kernel_rfl
  · exact (HGR.out w11 hS11)
  rintro e w12 ⟨rfl, f9⟩
  have hS12 := OldW.step hS11 f9
  clear f9
  refine ⟨_, rfl, hS12, ?_⟩
  clear hr57
  try simp only [Act.put, List.setIfInBounds_toArray, List.set_cons_zero, List.set_cons_succ]
  refine sqo_take (i := 58) (v := (.bool true)) (d := 88) rfl (by kernel_rfl) (by kernel_rfl) (by kernel_rfl) (by kernel_rfl) (by kernel_rfl) (fun _ _ _ h => h) ?_ (by assumption) ?_
  · intro w9 h9; kernel_rfl
  try simp only [Act.put, List.setIfInBounds_toArray, List.set_cons_zero, List.set_cons_succ]
  refine sqo_take (i := 59) (v := (.bool true)) (d := 0) rfl (by kernel_rfl) (by kernel_rfl) (by kernel_rfl) (by kernel_rfl) (by kernel_rfl) (fun _ _ _ h => h) ?_ (by assumption) ?_
  · intro w9 h9; kernel_rfl
  try simp only [Act.put, List.setIfInBounds_toArray, List.set_cons_zero, List.set_cons_succ]
  refine wpAnyH_done (by kernel_rfl) ?_ _
  go_wp2_with fail
  go_ret
  exact ⟨rfl, F1.out.trans (F6.out.trans hS12)⟩
end Go.Proofs.Ytmgbimdebhhckaa
