/- ShaHex: for every digest and every text the law returns true, and the arguments read behind the call as before; no condition. -/
import Derived.Test.YtgjcnmlfoagnpaaRows
import Derived.Test.YtgjcnmlfoagnpaaShaHexW
import Derived.Test.YtgjcnmlfoagnpaaArgsD
import Derived.WalkKit
import Derived.ProofKit
import Derived.OpenShut
import Derived.ShutString
import Derived.ChangeOld
import Derived.Below
namespace Go.Proofs.Ytgjcnmlfoagnpaa.shaHex
open Go.ChangeShapes Go.WideShapes Go.ChangeAt Go.RowKit
open Go.ChangeMaps (open_string shut_string)
set_option linter.unusedVariables false

theorem own : ownKnob Try.prog.godebug = none := by kernel_rfl
theorem laidOut : laidOutB Try.prog = true := by kernel_rfl


theorem opened {H : Type} {enc : TypeId × Value → H} (W : World) (base : Nat) (v0 v1 : Value) (d0 d1 : DataW H) (p0 p1 : List MemPlace)
    (vl0 : Value.okWide Try.prog W .any base 25 v0) (h0 : DataW.Trod enc Try.prog W 0 (fun _ => true) true 25 v0 d0 p0)
    (vl1 : Value.okWide Try.prog W .any base 9 v1) (h1 : DataW.Trod enc Try.prog W 0 (fun _ => true) true 9 v1 d1 p1) :
    Calls Try.prog 7 #[v0, v1] W fun e W' => e = .returned (.bool true) ∧ Below W.heap.size W W' := by
  obtain ⟨l, hl, rfl⟩ := open_arrV Try.underlying25 Try.underlying5 (by kernel_rfl) (by kernel_rfl) vl0 h0
  obtain ⟨s, rfl, _, _, _⟩ := open_string Try.underlying9 vl1 h1
  have e : s = str s.data.toList := by cases s; simp [str]
  rw [e]
  exact (hex_walk W l hl _).mono fun e W' ⟨he, hf⟩ => ⟨he, hf.below (Nat.le_refl _) (by simp)⟩

set_option maxRecDepth 100000 in
theorem lifted (os : Os) (started : os.Started) (H : Type) (enc : TypeId × Value → H) :
    ReturnsInHanded {} Try.checked os 7 .any (Rows.shaHexSpec.pre6 enc Try.prog Try.f7 Rows.shaHexRow.domain false) (Rows.shaHexSpec.post enc Try.prog Try.f7 false true false false) := by
  refine returnsInHanded_of_change (C := Try.checked) own started (by kernel_rfl) Try.func7
    (ChangeSpec.witness6 (enc := enc) (C := Try.checked) false ⟨#[], #[.agg (zs 32).toArray, .string ⟨#[]⟩], []⟩ 8 (by kernel_rfl) (by kernel_rfl) (by kernel_rfl) (by kernel_rfl)) ?_
  intro W base args ds gs before hval0 hW hcnd _
  have hval : ∀ (j : Nat) t v, Try.f7.params[j]? = some t → args[j]? = some v → Value.okWide Try.prog W .any base t v := hval0
  have hW' := hW
  obtain ⟨p, q, hA0, hV, rfl, hfz, hnd⟩ := hW
  have hA : DataW.TrodAll enc Try.prog W 0 (fun _ => true) true Try.f7.params.toList args.toList ds p := hA0
  rw [Try.params7] at hA hval
  obtain ⟨v0, vs0, d0, ds0, p0, q0, hargs, rfl, rfl, h0, r0⟩ := trodAll_cons hA
  obtain ⟨v1, vs1, d1, ds1, p1, q1, rfl, rfl, rfl, h1, r1⟩ := trodAll_cons r0
  obtain ⟨rfl, rfl, rfl⟩ := trodAll_nil r1
  obtain rfl : args = #[v0, v1] := by cases args; simp_all
  obtain ⟨rfl, rfl⟩ := trodVars_none hV
  have lt0 : ∀ x ∈ p0, x.block < W.heap.size := by obtain ⟨m, hm⟩ := h0; exact DataW.trod_lt m _ _ _ hm
  have lt1 : ∀ x ∈ p1, x.block < W.heap.size := by obtain ⟨m, hm⟩ := h1; exact DataW.trod_lt m _ _ _ hm
  refine (opened W base v0 v1 d0 d1 p0 p1 (hval 0 25 v0 rfl rfl) h0 (hval 1 9 v1 rfl rfl) h1).mono fun e W' ⟨he, bel⟩ => ?_
  subst he
  exact ⟨_, rfl, _, _, _, [], _, [], hW', trodAll_mk1 (shut_bool Try.underlying4 _), (trodAll_cons_mk (Below.trod laidOut (by kernel_rfl) (of_decide_eq_true (by kernel_rfl)) h0 bel lt0) (trodAll_cons_mk (Below.trod laidOut (by kernel_rfl) (of_decide_eq_true (by kernel_rfl)) h1 bel lt1) trodAll_mk0)), rfl, bel.frame _, fun h => by cases h⟩

theorem over : Rows.shaHexRow.holds Try.pinned (OpenSpec.ofChange Rows.shaHexSpec) :=
  OpenClaim.holds_of_wide 7 Try.f7 rfl rfl rfl rfl rfl rfl rfl ⟨rfl, rfl, rfl, rfl, rfl⟩ rfl rfl rfl rfl rfl (by kernel_rfl) Try.func7 (by kernel_rfl)
    (of_decide_eq_true (by kernel_rfl)) (by unfold Func.isWrapper; first | (rw [if_pos (by decide +kernel)]; kernel_rfl) | (rw [if_neg (by decide +kernel)]; exact ⟨rfl, rfl⟩))
    (fun os started H enc _ => lifted os started H enc)

/-- THE STATEMENT. -/
theorem proved : Rows.ShaHexSaid := over
#print axioms proved
end Go.Proofs.Ytgjcnmlfoagnpaa.shaHex
