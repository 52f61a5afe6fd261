/- History: both. -/
import Derived.Test.YtmgbimdebhhckaaHistN
namespace Go.Proofs.Ytmgbimdebhhckaa
open Go.RowKit
set_option linter.unusedVariables false

section
variable {P : Program} {md : Region.Mode} {ops : Array Oper} {Q : Exit → Act → World → Prop} {S : World → Prop}
theorem sqs_take {i : Nat} {oi : Oper} {v : Value} {d : Tmp} {fuel : Nat} {listed : Array Bool} {a : Act} {w : World} (hi : ops[i]? = some oi) (hd : oi.dst = some d) (hg : Region.wanted oi (yielded ops a.tmps) = true)
    (hs : Region.noSelect ops = true) (hf : Region.free md ops listed i = true) (hr : (Region.ready md ops listed).contains i = true)
    (hQ : ∀ c a w, Q (.panic c) (a.put (some d) v) w → Q (.panic c) a w) (hy : ∀ w', S w' → (execOp a.eval oi).run P w' = .ok (.value v) w') (hS : S w)
    (h : wpAnyH P md ops Q S fuel (listed.setIfInBounds i true) (a.put (some d) v) w) : wpAnyH P md ops Q S (fuel + 1) listed a w :=
  wpAnyH_take hi hs hf hr (by rw [hd]; exact hQ) (Or.inl ⟨hg, hy⟩) hS (by rw [hd]; exact h)
theorem sqs_pass {i : Nat} {oi : Oper} {d : Tmp} {fuel : Nat} {listed : Array Bool} {a : Act} {w : World} (hi : ops[i]? = some oi) (hd : oi.dst = some d) (hg : Region.wanted oi (yielded ops a.tmps) = false)
    (hs : Region.noSelect ops = true) (hf : Region.free md ops listed i = true) (hr : (Region.ready md ops listed).contains i = true)
    (hQ : ∀ c a w, Q (.panic c) (a.put (some d) undef) w → Q (.panic c) a w) (hS : S w)
    (h : wpAnyH P md ops Q S fuel (listed.setIfInBounds i true) (a.put (some d) undef) w) : wpAnyH P md ops Q S (fuel + 1) listed a w :=
  wpAnyH_take (v := undef) hi hs hf hr (by rw [hd]; exact hQ) (Or.inr ⟨hg, rfl⟩) hS (by rw [hd]; exact h)
theorem sqs_only {i : Nat} {o : Oper} {fuel : Nat} {listed : Array Bool} {a : Act} {w : World} (hi : ops[i]? = some o) (hg : Region.wanted o (yielded ops a.tmps) = true) (hr : Region.ready md ops listed = [i])
    (h : Oper.wp P o a w (fun a' w' => S w' ∧ wpAnyH P md ops Q S fuel (listed.setIfInBounds i true) a' w') Q) : wpAnyH P md ops Q S (fuel + 1) listed a w := by
  refine wpAnyH_all hr (by simp) fun j hj => ?_
  obtain rfl := List.mem_singleton.1 hj
  unfold wpOp
  rw [hi]
  simp only [hg, if_true]
  exact .inl h
theorem sqs_begin (S : World → Prop) {id : Nat} {a : Act} {w : World} (hm : P.follows .mixedOrders = true)
    (h : wpAnyH P .any ops Q S ops.size (Array.replicate ops.size false) a w.drew) : (Code.region id ops true).wp P Q a w := wp_region_held hm h
end
/-- these digests stand in these blocks -/
def RowsW (rows : List (Nat × List UInt8)) (w : World) : Prop := ∀ r ∈ rows, Blk w r.1 25 (u8s r.2).toArray
theorem RowsW.fr {rows : List (Nat × List UInt8)} {w w' : World} {S : List Nat} (h : RowsW rows w) (hf : Fr S w w') (hS : ∀ r ∈ rows, r.1 ∉ S) : RowsW rows w' := fun r hr => (h r hr).fr hf (hS r hr)
theorem RowsW.fr0 {rows : List (Nat × List UInt8)} {w w' : World} (h : RowsW rows w) (hf : Fr [] w w') : RowsW rows w' := h.fr hf (by simp)
theorem RowsW.pf {rows : List (Nat × List UInt8)} {w w' : World} {g : Nat} {v v' : Value} (h : RowsW rows w) (hf : PF w w' g v v') (hg : ∀ r ∈ rows, r.1 ≠ g ∧ v.ownBlock ≠ some r.1) : RowsW rows w' := fun r hr => hf.blk (h r hr) (hg r hr).1 (hg r hr).2
theorem RowsW.set {rows : List (Nat × List UInt8)} {w : World} {B : Nat} (h : RowsW rows w) (hB : ∀ r ∈ rows, r.1 ≠ B) (cs : Array Value) : RowsW rows (w.setRow B cs) := fun r hr => (h r hr).setRow_far (hB r hr) cs
theorem RowsW.at {rows : List (Nat × List UInt8)} {w : World} (h : RowsW rows w) (i : Nat) (B : Nat) (x : List UInt8) (hr : rows[i]? = some (B, x)) : ∀ j v, (u8s x)[j]? = some v → w.cell? ⟨B, 0 + j, none⟩ = some v := rd_row (h _ (List.mem_of_getElem? hr))
theorem results_cell_row2 {P : Program} {fn : Func} {p q : Tmp} {ty : TypeId} (h : fn.results = #[.cell p ty, .cell q ty]) (tmps : Array Value) (w : World) (g g' : Nat) (t : TypeId) (cs cs' : Array Value) (d : TypeDesc)
    (hp : tmps.getD p undef = .pointer (some ⟨g, 0, none⟩)) (hq : tmps.getD q undef = .pointer (some ⟨g', 0, none⟩)) (hg : Blk w g t cs) (hg' : Blk w g' t cs')
    (hu : P.underlying ty = some d) (hd : (match d with | .struct _ | .array _ _ => true | _ => false) = true) (hi : (P.info? ty).map (·.size) = some cs.size) (hi' : (P.info? ty).map (·.size) = some cs'.size) :
    (results fn tmps).run P w = .ok (.tuple #[.agg cs, .agg cs']) w := by
  have hp' : tmps[p]?.getD undef = .pointer (some ⟨g, 0, none⟩) := by simpa using hp
  have hq' : tmps[q]?.getD undef = .pointer (some ⟨g', 0, none⟩) := by simpa using hq
  simp [results, h, hp', hq', asAddr, run_loadVar_row w g t ty cs (0, 0) d hg hu hd hi, run_loadVar_row w g' t ty cs' (0, 0) d hg' hu hd hi', Sem.run_bind, Result.andThen]
def BoP (w : World) (D : List Nat) (g base : Nat) (v : Value) (T : List (List UInt8)) (r : BoR) (e : Ending) (w' : World) : Prop :=
  e = .returned (.tuple #[.agg (u8s r.x).toArray, .agg (u8s r.y).toArray]) ∧ ∃ v', PIs w' D g base v' r.L (T ++ r.N) r.k ∧ PF w w' g v v'
end Go.Proofs.Ytmgbimdebhhckaa
