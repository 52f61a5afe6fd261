/- A drawn region walked in order, where old memory stands: with guards. -/
import Derived.Test.YtmgbimdebhhckaaSeq
namespace Go.Proofs.Ytmgbimdebhhckaa
open Go.RowKit
set_option linter.unusedVariables false

section
variable {P : Program} {md : Region.Mode} {ops : Array Oper} {Q : Exit → Act → World → Prop}
/-- what was there stands -/
def OldW (w0 : World) (w : World) : Prop := Fr [] w0 w
theorem OldW.step {a b c : World} (h : OldW a b) (k : Fr [] b c) : OldW a c := Fr.trans h k
theorem sqo_take {w0 : World} {i : Nat} {oi : Oper} {v : Value} {d : Tmp} {fuel : Nat} {listed : Array Bool} {a : Act} {w : World} (hi : ops[i]? = some oi) (hd : oi.dst = some d) (hg : Region.wanted oi (yielded ops a.tmps) = true)
    (hs : Region.noSelect ops = true) (hf : Region.free md ops listed i = true) (hr : (Region.ready md ops listed).contains i = true)
    (hQ : ∀ c a w, Q (.panic c) (a.put (some d) v) w → Q (.panic c) a w) (hy : ∀ w', OldW w0 w' → (execOp a.eval oi).run P w' = .ok (.value v) w') (hS : OldW w0 w)
    (h : wpAnyH P md ops Q (OldW w0) fuel (listed.setIfInBounds i true) (a.put (some d) v) w) : wpAnyH P md ops Q (OldW w0) (fuel + 1) listed a w :=
  wpAnyH_take hi hs hf hr (by rw [hd]; exact hQ) (Or.inl ⟨hg, hy⟩) hS (by rw [hd]; exact h)
theorem sqo_pass {w0 : World} {i : Nat} {oi : Oper} {d : Tmp} {fuel : Nat} {listed : Array Bool} {a : Act} {w : World} (hi : ops[i]? = some oi) (hd : oi.dst = some d) (hg : Region.wanted oi (yielded ops a.tmps) = false)
    (hs : Region.noSelect ops = true) (hf : Region.free md ops listed i = true) (hr : (Region.ready md ops listed).contains i = true)
    (hQ : ∀ c a w, Q (.panic c) (a.put (some d) undef) w → Q (.panic c) a w) (hS : OldW w0 w)
    (h : wpAnyH P md ops Q (OldW w0) fuel (listed.setIfInBounds i true) (a.put (some d) undef) w) : wpAnyH P md ops Q (OldW w0) (fuel + 1) listed a w :=
  wpAnyH_take (v := undef) hi hs hf hr (by rw [hd]; exact hQ) (Or.inr ⟨hg, rfl⟩) hS (by rw [hd]; exact h)
theorem sqo_only {w0 : World} {i : Nat} {o : Oper} {fuel : Nat} {listed : Array Bool} {a : Act} {w : World} (hi : ops[i]? = some o) (hg : Region.wanted o (yielded ops a.tmps) = true) (hr : Region.ready md ops listed = [i])
    (h : Oper.wp P o a w (fun a' w' => OldW w0 w' ∧ wpAnyH P md ops Q (OldW w0) fuel (listed.setIfInBounds i true) a' w') Q) : wpAnyH P md ops Q (OldW w0) (fuel + 1) listed a w := by
  refine wpAnyH_all hr (by simp) fun j hj => ?_
  obtain rfl := List.mem_singleton.1 hj
  unfold wpOp
  rw [hi]
  simp only [hg, if_true]
  exact .inl h
theorem sqo_begin {w0 : World} {id : Nat} {a : Act} {w : World} (hm : P.follows .mixedOrders = true)
    (h : wpAnyH P .any ops Q (OldW w0) ops.size (Array.replicate ops.size false) a w.drew) : (Code.region id ops true).wp P Q a w := wp_region_held hm h
end
end Go.Proofs.Ytmgbimdebhhckaa
