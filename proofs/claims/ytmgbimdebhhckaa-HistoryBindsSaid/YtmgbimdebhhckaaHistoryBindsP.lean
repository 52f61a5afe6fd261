/- HistoryBinds: for all sums, numbers and proofs the law returns true, and the arguments read behind the call as before; no condition. -/
import Derived.Test.YtmgbimdebhhckaaRows
import Derived.Test.YtmgbimdebhhckaaHistBindsW
import Derived.Test.YtmgbimdebhhckaaArgsG
import Derived.WalkKit
import Derived.ProofKit
import Derived.OpenShut
import Derived.ShutString
import Derived.ChangeOld
import Derived.Below
namespace Go.Proofs.Ytmgbimdebhhckaa.historyBinds
open Go.ChangeShapes Go.WideShapes Go.ChangeAt Go.RowKit
open Go.ChangeMaps (open_string shut_string)
set_option linter.unusedVariables false

theorem own : ownKnob Try.prog.godebug = none := by kernel_rfl
theorem laidOut : laidOutB Try.prog = true := by kernel_rfl


theorem opened {H : Type} {enc : TypeId × Value → H} (W : World) (base : Nat) (v0 v1 v2 v3 v4 v5 v6 v7 v8 v9 : Value) (d0 d1 d2 d3 d4 d5 d6 d7 d8 d9 : DataW H) (p0 p1 p2 p3 p4 p5 p6 p7 p8 p9 : List MemPlace)
    (vl0 : Value.okWide Try.prog W .any base 25 v0) (h0 : DataW.Trod enc Try.prog W 0 (fun _ => true) true 25 v0 d0 p0)
    (vl1 : Value.okWide Try.prog W .any base 25 v1) (h1 : DataW.Trod enc Try.prog W 0 (fun _ => true) true 25 v1 d1 p1)
    (vl2 : Value.okWide Try.prog W .any base 25 v2) (h2 : DataW.Trod enc Try.prog W 0 (fun _ => true) true 25 v2 d2 p2)
    (vl3 : Value.okWide Try.prog W .any base 25 v3) (h3 : DataW.Trod enc Try.prog W 0 (fun _ => true) true 25 v3 d3 p3)
    (vl4 : Value.okWide Try.prog W .any base 3 v4) (h4 : DataW.Trod enc Try.prog W 0 (fun _ => true) true 3 v4 d4 p4)
    (vl5 : Value.okWide Try.prog W .any base 3 v5) (h5 : DataW.Trod enc Try.prog W 0 (fun _ => true) true 3 v5 d5 p5)
    (vl6 : Value.okWide Try.prog W .any base 3 v6) (h6 : DataW.Trod enc Try.prog W 0 (fun _ => true) true 3 v6 d6 p6)
    (vl7 : Value.okWide Try.prog W .any base 22 v7) (h7 : DataW.Trod enc Try.prog W 0 (fun _ => true) true 22 v7 d7 p7)
    (vl8 : Value.okWide Try.prog W .any base 22 v8) (h8 : DataW.Trod enc Try.prog W 0 (fun _ => true) true 22 v8 d8 p8)
    (vl9 : Value.okWide Try.prog W .any base 22 v9) (h9 : DataW.Trod enc Try.prog W 0 (fun _ => true) true 22 v9 d9 p9) :
    Calls Try.prog 5 #[v0, v1, v2, v3, v4, v5, v6, v7, v8, v9] W fun e W' => e = .returned (.bool true) ∧ Below W.heap.size W W' := by
  obtain ⟨a, ha, rfl⟩ := open_arrV Try.underlying25 Try.underlying5 (by kernel_rfl) (by kernel_rfl) vl0 h0
  obtain ⟨b, hb, rfl⟩ := open_arrV Try.underlying25 Try.underlying5 (by kernel_rfl) (by kernel_rfl) vl1 h1
  obtain ⟨x, hx, rfl⟩ := open_arrV Try.underlying25 Try.underlying5 (by kernel_rfl) (by kernel_rfl) vl2 h2
  obtain ⟨y, hy, rfl⟩ := open_arrV Try.underlying25 Try.underlying5 (by kernel_rfl) (by kernel_rfl) vl3 h3
  obtain ⟨m, rfl, rfl, rfl, _⟩ := open_int Try.underlying3 vl4 h4
  obtain ⟨n, rfl, rfl, rfl, _⟩ := open_int Try.underlying3 vl5 h5
  obtain ⟨i, rfl, rfl, rfl, _⟩ := open_int Try.underlying3 vl6 h6
  obtain ⟨pA, p, cp, rfl, mp, lp, dp⟩ := open_digs vl7 h7
  obtain ⟨qA, q, cq, rfl, mq, lq, dq⟩ := open_digs vl8 h8
  obtain ⟨gA, g, cg, rfl, mg, lg, dg⟩ := open_digs vl9 h9
  exact (binds_walk W a b x y ha hb hx hy m n i pA qA gA _ cp _ cq _ cg p q g rfl lp dp rfl lq dq rfl lg dg ⟨mp, mq, mg⟩).mono fun e W' ⟨he, hf⟩ => ⟨he, hf.below (Nat.le_refl _) (by simp)⟩

set_option maxRecDepth 100000 in
theorem lifted (os : Os) (started : os.Started) (H : Type) (enc : TypeId × Value → H) :
    ReturnsInHanded {} Try.checked os 5 .any (Rows.historyBindsSpec.pre6 enc Try.prog Try.f5 Rows.historyBindsRow.domain false) (Rows.historyBindsSpec.post enc Try.prog Try.f5 false true false false) := by
  refine returnsInHanded_of_change (C := Try.checked) own started (by kernel_rfl) Try.func5
    (ChangeSpec.witness6 (enc := enc) (C := Try.checked) false ⟨#[], #[.agg (zs 32).toArray, .agg (zs 32).toArray, .agg (zs 32).toArray, .agg (zs 32).toArray, .int .i64 0, .int .i64 0, .int .i64 0, .slice none 0 0, .slice none 0 0, .slice none 0 0], []⟩ 8 (by kernel_rfl) (by kernel_rfl) (by kernel_rfl) (by kernel_rfl)) ?_
  intro W base args ds gs before hval0 hW hcnd _
  have hval : ∀ (j : Nat) t v, Try.f5.params[j]? = some t → args[j]? = some v → Value.okWide Try.prog W .any base t v := hval0
  have hW' := hW
  obtain ⟨p, q, hA0, hV, rfl, hfz, hnd⟩ := hW
  have hA : DataW.TrodAll enc Try.prog W 0 (fun _ => true) true Try.f5.params.toList args.toList ds p := hA0
  rw [Try.params5] at hA hval
  obtain ⟨v0, vs0, d0, ds0, p0, q0, hargs, rfl, rfl, h0, r0⟩ := trodAll_cons hA
  obtain ⟨v1, vs1, d1, ds1, p1, q1, rfl, rfl, rfl, h1, r1⟩ := trodAll_cons r0
  obtain ⟨v2, vs2, d2, ds2, p2, q2, rfl, rfl, rfl, h2, r2⟩ := trodAll_cons r1
  obtain ⟨v3, vs3, d3, ds3, p3, q3, rfl, rfl, rfl, h3, r3⟩ := trodAll_cons r2
  obtain ⟨v4, vs4, d4, ds4, p4, q4, rfl, rfl, rfl, h4, r4⟩ := trodAll_cons r3
  obtain ⟨v5, vs5, d5, ds5, p5, q5, rfl, rfl, rfl, h5, r5⟩ := trodAll_cons r4
  obtain ⟨v6, vs6, d6, ds6, p6, q6, rfl, rfl, rfl, h6, r6⟩ := trodAll_cons r5
  obtain ⟨v7, vs7, d7, ds7, p7, q7, rfl, rfl, rfl, h7, r7⟩ := trodAll_cons r6
  obtain ⟨v8, vs8, d8, ds8, p8, q8, rfl, rfl, rfl, h8, r8⟩ := trodAll_cons r7
  obtain ⟨v9, vs9, d9, ds9, p9, q9, rfl, rfl, rfl, h9, r9⟩ := trodAll_cons r8
  obtain ⟨rfl, rfl, rfl⟩ := trodAll_nil r9
  obtain rfl : args = #[v0, v1, v2, v3, v4, v5, v6, v7, v8, v9] := by cases args; simp_all
  obtain ⟨rfl, rfl⟩ := trodVars_none hV
  have lt0 : ∀ x ∈ p0, x.block < W.heap.size := by obtain ⟨m, hm⟩ := h0; exact DataW.trod_lt m _ _ _ hm
  have lt1 : ∀ x ∈ p1, x.block < W.heap.size := by obtain ⟨m, hm⟩ := h1; exact DataW.trod_lt m _ _ _ hm
  have lt2 : ∀ x ∈ p2, x.block < W.heap.size := by obtain ⟨m, hm⟩ := h2; exact DataW.trod_lt m _ _ _ hm
  have lt3 : ∀ x ∈ p3, x.block < W.heap.size := by obtain ⟨m, hm⟩ := h3; exact DataW.trod_lt m _ _ _ hm
  have lt4 : ∀ x ∈ p4, x.block < W.heap.size := by obtain ⟨m, hm⟩ := h4; exact DataW.trod_lt m _ _ _ hm
  have lt5 : ∀ x ∈ p5, x.block < W.heap.size := by obtain ⟨m, hm⟩ := h5; exact DataW.trod_lt m _ _ _ hm
  have lt6 : ∀ x ∈ p6, x.block < W.heap.size := by obtain ⟨m, hm⟩ := h6; exact DataW.trod_lt m _ _ _ hm
  have lt7 : ∀ x ∈ p7, x.block < W.heap.size := by obtain ⟨m, hm⟩ := h7; exact DataW.trod_lt m _ _ _ hm
  have lt8 : ∀ x ∈ p8, x.block < W.heap.size := by obtain ⟨m, hm⟩ := h8; exact DataW.trod_lt m _ _ _ hm
  have lt9 : ∀ x ∈ p9, x.block < W.heap.size := by obtain ⟨m, hm⟩ := h9; exact DataW.trod_lt m _ _ _ hm
  refine (opened W base v0 v1 v2 v3 v4 v5 v6 v7 v8 v9 d0 d1 d2 d3 d4 d5 d6 d7 d8 d9 p0 p1 p2 p3 p4 p5 p6 p7 p8 p9 (hval 0 25 v0 rfl rfl) h0 (hval 1 25 v1 rfl rfl) h1 (hval 2 25 v2 rfl rfl) h2 (hval 3 25 v3 rfl rfl) h3 (hval 4 3 v4 rfl rfl) h4 (hval 5 3 v5 rfl rfl) h5 (hval 6 3 v6 rfl rfl) h6 (hval 7 22 v7 rfl rfl) h7 (hval 8 22 v8 rfl rfl) h8 (hval 9 22 v9 rfl rfl) h9).mono fun e W' ⟨he, bel⟩ => ?_
  subst he
  exact ⟨_, rfl, _, _, _, [], _, [], hW', trodAll_mk1 (shut_bool Try.underlying4 _), (trodAll_cons_mk (Below.trod laidOut (by kernel_rfl) (of_decide_eq_true (by kernel_rfl)) h0 bel lt0) (trodAll_cons_mk (Below.trod laidOut (by kernel_rfl) (of_decide_eq_true (by kernel_rfl)) h1 bel lt1) (trodAll_cons_mk (Below.trod laidOut (by kernel_rfl) (of_decide_eq_true (by kernel_rfl)) h2 bel lt2) (trodAll_cons_mk (Below.trod laidOut (by kernel_rfl) (of_decide_eq_true (by kernel_rfl)) h3 bel lt3) (trodAll_cons_mk (Below.trod laidOut (by kernel_rfl) (of_decide_eq_true (by kernel_rfl)) h4 bel lt4) (trodAll_cons_mk (Below.trod laidOut (by kernel_rfl) (of_decide_eq_true (by kernel_rfl)) h5 bel lt5) (trodAll_cons_mk (Below.trod laidOut (by kernel_rfl) (of_decide_eq_true (by kernel_rfl)) h6 bel lt6) (trodAll_cons_mk (Below.trod laidOut (by kernel_rfl) (of_decide_eq_true (by kernel_rfl)) h7 bel lt7) (trodAll_cons_mk (Below.trod laidOut (by kernel_rfl) (of_decide_eq_true (by kernel_rfl)) h8 bel lt8) (trodAll_cons_mk (Below.trod laidOut (by kernel_rfl) (of_decide_eq_true (by kernel_rfl)) h9 bel lt9) trodAll_mk0)))))))))), rfl, bel.frame _, fun h => by cases h⟩

theorem over : Rows.historyBindsRow.holds Try.pinned (OpenSpec.ofChange Rows.historyBindsSpec) :=
  OpenClaim.holds_of_wide 5 Try.f5 rfl rfl rfl rfl rfl rfl rfl ⟨rfl, rfl, rfl, rfl, rfl⟩ rfl rfl rfl rfl rfl (by kernel_rfl) Try.func5 (by kernel_rfl)
    (of_decide_eq_true (by kernel_rfl)) (by unfold Func.isWrapper; first | (rw [if_pos (by decide +kernel)]; kernel_rfl) | (rw [if_neg (by decide +kernel)]; exact ⟨rfl, rfl⟩))
    (fun os started H enc _ => lifted os started H enc)

/-- THE STATEMENT. -/
theorem proved : Rows.HistoryBindsSaid := over
#print axioms proved
end Go.Proofs.Ytmgbimdebhhckaa.historyBinds
