/- WalNeeds: for every number the law returns true, and the argument reads behind the call as before; no condition. -/
import Derived.Test.YtmmjihkcofgmmaaGk
import Derived.Test.YtmmjihkcofgmmaaRows
import Derived.WalkKit
import Derived.ProofKit
import Derived.OpenShut
import Derived.ShutString
import Derived.ChangeOld
import Derived.Below

/- The walk of WalNeeds. -/
namespace Go.Proofs.Ytmmjihkcofgmmaa
open Go.RowKit
set_option linter.unusedVariables false

set_option maxRecDepth 100000 in
theorem needs_walk (w : World) (n : Int) (h1 : -9223372036854775808 ≤ n) (h2 : n ≤ 9223372036854775807) : Calls Try.prog 3 #[.int .i64 n] w (Agg (.bool true) w) := by
  have HAL := Lib.hid (alive08 w)
  have HN := Lib.hid (fun W => need_calls W n); have HR := Lib.hid (fun W => rneed_calls W n h1 h2)
  clear h1 h2
  go_enter Try.func3, Try.ntmps3
  go_wp2_with (first
    | (go_at_call 8; (with_reducible refine HAL.out.mono ?_); rintro e w2 ⟨rfl, f2⟩; have F2 := Lib.hid f2; clear f2)
    | (go_at_call 9; (with_reducible refine (HN.out _).mono ?_); rintro e w' ⟨rfl, rfl⟩)
    | (go_at_call 10; (with_reducible refine (HR.out _).mono ?_); rintro e w' ⟨rfl, rfl⟩))
  go_ret
  exact ⟨by simp, F2.out⟩
end Go.Proofs.Ytmmjihkcofgmmaa

/- WalNeeds: for every number the law returns true, and the argument reads behind the call as before; no condition. -/
namespace Go.Proofs.Ytmmjihkcofgmmaa.walNeeds
open Go.ChangeShapes Go.WideShapes Go.ChangeAt Go.RowKit
open Go.ChangeMaps (open_string shut_string)
set_option linter.unusedVariables false

theorem own : ownKnob Try.prog.godebug = none := by kernel_rfl
theorem laidOut : laidOutB Try.prog = true := by kernel_rfl


set_option maxRecDepth 100000 in
theorem opened {H : Type} {enc : TypeId × Value → H} (W : World) (base : Nat) (v0 : Value) (d0 : DataW H) (p0 : List MemPlace)
    (vl0 : Value.okWide Try.prog W .any base 3 v0) (h0 : DataW.Trod enc Try.prog W 0 (fun _ => true) true 3 v0 d0 p0) :
    Calls Try.prog 3 #[v0] W fun e W' => e = .returned (.bool true) ∧ Below W.heap.size W W' := by
  obtain ⟨n, rfl, rfl, rfl, wn⟩ := open_int Try.underlying3 vl0 h0
  exact (needs_walk W n (wf_i64 wn).1 (wf_i64 wn).2).mono fun e W' ⟨he, hf⟩ => ⟨he, hf.below (Nat.le_refl _) (by simp)⟩

set_option maxRecDepth 100000 in
theorem lifted (os : Os) (started : os.Started) (H : Type) (enc : TypeId × Value → H) :
    ReturnsInHanded {} Try.checked os 3 .any (Rows.walNeedsSpec.pre6 enc Try.prog Try.f3 Rows.walNeedsRow.domain false) (Rows.walNeedsSpec.post enc Try.prog Try.f3 false true false false) := by
  refine returnsInHanded_of_change (C := Try.checked) own started (by kernel_rfl) Try.func3
    (ChangeSpec.witness6 (enc := enc) (C := Try.checked) false ⟨#[], #[.int .i64 0], []⟩ 8 (by kernel_rfl) (by kernel_rfl) (by kernel_rfl) (by kernel_rfl)) ?_
  intro W base args ds gs before hval0 hW hcnd _
  have hval : ∀ (j : Nat) t v, Try.f3.params[j]? = some t → args[j]? = some v → Value.okWide Try.prog W .any base t v := hval0
  have hW' := hW
  obtain ⟨p, q, hA0, hV, rfl, hfz, hnd⟩ := hW
  have hA : DataW.TrodAll enc Try.prog W 0 (fun _ => true) true Try.f3.params.toList args.toList ds p := hA0
  rw [Try.params3] at hA hval
  obtain ⟨v0, vs0, d0, ds0, p0, q0, hargs, rfl, rfl, h0, r0⟩ := trodAll_cons hA
  obtain ⟨rfl, rfl, rfl⟩ := trodAll_nil r0
  obtain rfl : args = #[v0] := by cases args; simp_all
  obtain ⟨rfl, rfl⟩ := trodVars_none hV
  have lt0 : ∀ x ∈ p0, x.block < W.heap.size := by obtain ⟨m, hm⟩ := h0; exact DataW.trod_lt m _ _ _ hm
  refine (opened W base v0 d0 p0 (hval 0 3 v0 rfl rfl) h0).mono fun e W' ⟨he, bel⟩ => ?_
  subst he
  exact ⟨_, rfl, _, _, _, [], _, [], hW', trodAll_mk1 (shut_bool Try.underlying4 _), (trodAll_cons_mk (Below.trod laidOut (by kernel_rfl) (of_decide_eq_true (by kernel_rfl)) h0 bel lt0) trodAll_mk0), rfl, bel.frame _, fun h => by cases h⟩

theorem over : Rows.walNeedsRow.holds Try.pinned (OpenSpec.ofChange Rows.walNeedsSpec) :=
  OpenClaim.holds_of_wide 3 Try.f3 rfl rfl rfl rfl rfl rfl rfl ⟨rfl, rfl, rfl, rfl, rfl⟩ rfl rfl rfl rfl rfl (by kernel_rfl) Try.func3 (by kernel_rfl)
    (of_decide_eq_true (by kernel_rfl)) (by unfold Func.isWrapper; first | (rw [if_pos (by decide +kernel)]; kernel_rfl) | (rw [if_neg (by decide +kernel)]; exact ⟨rfl, rfl⟩))
    (fun os started H enc _ => lifted os started H enc)

/-- THE STATEMENT. -/
theorem proved : Rows.WalNeedsSaid := over
#print axioms proved
end Go.Proofs.Ytmmjihkcofgmmaa.walNeeds
