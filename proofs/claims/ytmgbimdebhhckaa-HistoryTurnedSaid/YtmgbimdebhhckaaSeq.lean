/- A drawn region whose order is forced once its pure operations are taken. -/
import Derived.Test.YtmgbimdebhhckaaShaS
import Derived.Deep.RegionHeld3
namespace Go.Proofs.Ytmgbimdebhhckaa
open Go.RowKit
set_option linter.unusedVariables false

section
variable {P : Program} {md : Region.Mode} {ops : Array Oper} {Q : Exit → Act → World → Prop}
/-- no world is asked for -/
def AnyW (_ : World) : Prop := True
theorem seq_take {i : Nat} {oi : Oper} {v : Value} {d : Tmp} {fuel : Nat} {listed : Array Bool} {a : Act} {w : World} (hi : ops[i]? = some oi) (hd : oi.dst = some d) (hg : oi.guard = none)
    (hs : Region.noSelect ops = true) (hf : Region.free md ops listed i = true) (hr : (Region.ready md ops listed).contains i = true)
    (hQ : ∀ c a w, Q (.panic c) (a.put (some d) v) w → Q (.panic c) a w) (hy : ∀ w', (execOp a.eval oi).run P w' = .ok (.value v) w')
    (h : wpAnyH P md ops Q AnyW fuel (listed.setIfInBounds i true) (a.put (some d) v) w) : wpAnyH P md ops Q AnyW (fuel + 1) listed a w :=
  wpAnyH_take hi hs hf hr (by rw [hd]; exact hQ) (Or.inl ⟨by simp [Region.wanted, hg], fun w' _ => hy w'⟩) trivial (by rw [hd]; exact h)
theorem seq_only {i : Nat} {o : Oper} {fuel : Nat} {listed : Array Bool} {a : Act} {w : World} (hi : ops[i]? = some o) (hg : o.guard = none) (hr : Region.ready md ops listed = [i])
    (h : Oper.wp P o a w (fun a' w' => wpAnyH P md ops Q AnyW fuel (listed.setIfInBounds i true) a' w') Q) : wpAnyH P md ops Q AnyW (fuel + 1) listed a w := by
  refine wpAnyH_all hr (by simp) fun j hj => ?_
  obtain rfl := List.mem_singleton.1 hj
  refine wpOp_of hi hg ?_
  exact Oper.wp_mono (fun a' w' h' => ⟨trivial, h'⟩) h
theorem seq_begin {id : Nat} {a : Act} {w : World} (hm : P.follows .mixedOrders = true)
    (h : wpAnyH P .any ops Q AnyW ops.size (Array.replicate ops.size false) a w.drew) : (Code.region id ops true).wp P Q a w := wp_region_held hm h
section
variable {a : Act} {o : Oper} {w : World} {K : Act → World → Prop}
theorem sq_load (ty : TypeId) (x : Operand) (b off : Nat) (cs : List Value) (de : TypeDesc) (d : Tmp) (ho : o.op = .load ty x) (hd : o.dst = some d) (hx : a.eval x = .pointer (some ⟨b, off, none⟩))
    (hc : ∀ j v, cs[j]? = some v → w.cell? ⟨b, off + j, none⟩ = some v)
    (hu : P.underlying ty = some de) (hdd : (match de with | .struct _ | .array _ _ => true | _ => false) = true) (hi : (P.info? ty).map (·.size) = some cs.length)
    (hk : K (a.put (some d) (.agg cs.toArray)) w) : Oper.wp P o a w K Q := opwp_load_agg ty x b off cs de ho hx hc hu hdd hi (by rw [hd]; exact hk)
theorem sq_val (v : Value) (w' : World) (d : Tmp) (hd : o.dst = some d) (he : (execOp a.eval o).run P w = .ok (.value v) w') (hk : K (a.put (some d) v) w') : Oper.wp P o a w K Q := opwp_val he (by rw [hd]; exact hk)
theorem sq_call (R : Ending → World → Prop) (f : FuncId) (args : Array Value) (d : Tmp) (hd : o.dst = some d) (he : (execOp a.eval o).run P w = .ok (.enter f args) w) (hc : Calls P f args w R)
    (hr : ∀ e w', R e w' → ∃ v, e = .returned v ∧ K (a.put (some d) v) w') : Oper.wp P o a w K Q := opwp_call f args he hc (by rw [hd]; exact hr)
theorem sq_store (ty : TypeId) (p x : Operand) (g off : Nat) (cs cur : List Value) (t : TypeId) (ho : o.op = .store ty p x) (hd : o.dst = none) (hp : a.eval p = .pointer (some ⟨g, off, none⟩))
    (hx : a.eval x = .agg cs.toArray) (hg : Blk w g t cur.toArray) (hfit : off + cs.length ≤ cur.length) (h1 : ∀ v ∈ cs, v.oneCell' = true)
    (hi : (P.info? ty).map (·.size) = some cs.length)
    (hk : K a (w.setRow g (splice cur off cs).toArray)) : Oper.wp P o a w K Q := opwp_store_at ty p x g off cs cur t ho hp hx hg hfit h1 hi (by rw [hd]; exact hk)
theorem sq_skip (w' : World) (hd : o.dst = none) (he : (execOp a.eval o).run P w = .ok .skip w') (hk : K a w') : Oper.wp P o a w K Q := opwp_skip he (by rw [hd]; exact hk)
end
end
end Go.Proofs.Ytmgbimdebhhckaa
