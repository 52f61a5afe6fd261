/- One operation in whatever world, for walks by an invariant. -/
import Derived.Test.YtmgbimdebhhckaaShaR
namespace Go.Proofs.Ytmgbimdebhhckaa
open Go.RowKit

section
variable {P : Program} {a : Act} {o : Oper} {w w' : World} {K : Act → World → Prop} {Q : Exit → Act → World → Prop}
theorem opwp_val {v : Value} (he : (execOp a.eval o).run P w = .ok (.value v) w') (hk : K (a.put o.dst v) w') : Oper.wp P o a w K Q := by
  unfold Oper.wp
  rw [he]
  exact hk
theorem opwp_skip (he : (execOp a.eval o).run P w = .ok .skip w') (hk : K (a.put o.dst undef) w') : Oper.wp P o a w K Q := by
  unfold Oper.wp
  rw [he]
  exact hk
theorem opwp_call {R : Ending → World → Prop} (f : FuncId) (args : Array Value) (he : (execOp a.eval o).run P w = .ok (.enter f args) w) (hc : Calls P f args w R)
    (hr : ∀ e w', R e w' → ∃ v, e = .returned v ∧ K (a.put o.dst v) w') : Oper.wp P o a w K Q := by
  unfold Oper.wp
  rw [he, Oper.upon_enter]
  refine hc.mono fun e w' h => ?_
  obtain ⟨v, rfl, hk⟩ := hr e w' h
  exact hk
theorem exec_load_agg {ty : TypeId} {x : Operand} (ho : o.op = .load ty x) (b off : Nat) (hx : a.eval x = .pointer (some ⟨b, off, none⟩))
    (cs : List Value) (d : TypeDesc) (hc : ∀ j v, cs[j]? = some v → w.cell? ⟨b, off + j, none⟩ = some v)
    (hu : P.underlying ty = some d) (hd : (match d with | .struct _ | .array _ _ => true | _ => false) = true) (hi : (P.info? ty).map (·.size) = some cs.length) :
    (execOp a.eval o).run P w = .ok (.value (.agg cs.toArray)) w := by
  unfold execOp
  simp [ho, hx, Instr.loadAt, Instr.sureAddr, run_loadVar_agg w b off ty cs d hc hu hd hi]
theorem exec_alloc_agg {ty : TypeId} (ho : o.op = .alloc ty) (Z : Array Value) (hz : (P.info? ty).map (·.zero) = some (some (.agg Z))) :
    (execOp a.eval o).run P w = .ok (.value (.pointer (some ⟨w.heap.size, 0, none⟩))) (w.alloc (.cells Z ty)) := by
  cases hq : P.info? ty with
  | none => simp [hq] at hz
  | some i =>
    have hs : i.zero = some (.agg Z) := by simpa [hq] using hz
    unfold execOp
    simp [ho, Instr.alloc, zeroValue, typeInfo, hq, hs, newVar, newRow, newObj, Value.cells, Sem.run]
theorem exec_store_agg {ty : TypeId} {p x : Operand} (ho : o.op = .store ty p x) (g : Nat) (hp : a.eval p = .pointer (some ⟨g, 0, none⟩))
    (cs : List Value) (hx : a.eval x = .agg cs.toArray) (cur : List Value) (t : TypeId) (hg : Blk w g t cur.toArray) (hfit : cs.length = cur.length) (h1 : ∀ v ∈ cs, v.oneCell' = true)
    (hi : (P.info? ty).map (·.size) = some cs.length) :
    (execOp a.eval o).run P w = .ok .skip (w.setRow g cs.toArray) := by
  have hst := run_storeCells_at P g 0 t cs 0 cur.toArray w hg (by simp; omega) h1
  have hsp : splice cur 0 cs = cs := by simp [splice, hfit]
  cases hq : P.info? ty with
  | none => simp [hq] at hi
  | some i =>
    have hs : i.size = cs.length := by simpa [hq] using hi
    have : (execOp a.eval o).run P w = .ok .skip (w.setRow g (splice cur 0 cs).toArray) := by
      unfold execOp
      simp only [ho, hp, hx]
      simp [Instr.storeAt, Instr.sureAddr, storeVar, sizeOf, typeInfo, hq, hs, Value.cells, hst, splice]
    rw [this, hsp]
end
def F7 (a0 : Act) (x5 x6 x7 t14 t15 t16 t17 : Value) : Act := ((((((a0.put (some 5) x5).put (some 6) x6).put (some 7) x7).put (some 14) t14).put (some 15) t15).put (some 16) t16).put (some 17) t17
theorem wp_region_invA {P : Program} {ops : Array Oper} {Q : Exit → Act → World → Prop} {id : Nat} {a : Act} {w : World} (hm : P.follows .mixedOrders = true) (Inv : Act → World → Array Bool → Act → World → Prop)
    (h0 : Inv a w (Array.replicate ops.size false) a w.drew)
    (hstep : ∀ l a' w' i, Inv a w l a' w' → i ∈ Region.ready .any ops l → wpOp P ops Q i (Inv a w (l.setIfInBounds i true)) a' w')
    (hdone : ∀ l a' w', Inv a w l a' w' → Region.ready .any ops l = [] → Q .normal a' w') : (Code.region id ops true).wp P Q a w :=
  wp_region_inv hm (Inv a w) h0 hstep hdone
theorem getD_false {l : Array Bool} {i : Nat} (h : l.getD i true = false) : l.getD i false = false := by
  rcases Nat.lt_or_ge i l.size with h' | h'
  · simp [h'] at h ⊢; exact h
  · simp [Array.getElem?_eq_none h']
section
variable {P : Program} {a : Act} {o : Oper} {w : World} {K : Act → World → Prop} {Q : Exit → Act → World → Prop}
theorem opwp_load_agg (ty : TypeId) (x : Operand) (b off : Nat) (cs : List Value) (d : TypeDesc) (ho : o.op = .load ty x) (hx : a.eval x = .pointer (some ⟨b, off, none⟩))
    (hc : ∀ j v, cs[j]? = some v → w.cell? ⟨b, off + j, none⟩ = some v)
    (hu : P.underlying ty = some d) (hd : (match d with | .struct _ | .array _ _ => true | _ => false) = true) (hi : (P.info? ty).map (·.size) = some cs.length)
    (hk : K (a.put o.dst (.agg cs.toArray)) w) : Oper.wp P o a w K Q :=
  opwp_val (exec_load_agg ho b off hx cs d hc hu hd hi) hk
theorem opwp_store_agg (ty : TypeId) (p x : Operand) (g : Nat) (cs cur : List Value) (t : TypeId) (ho : o.op = .store ty p x) (hp : a.eval p = .pointer (some ⟨g, 0, none⟩))
    (hx : a.eval x = .agg cs.toArray) (hg : Blk w g t cur.toArray) (hfit : cs.length = cur.length) (h1 : ∀ v ∈ cs, v.oneCell' = true)
    (hi : (P.info? ty).map (·.size) = some cs.length)
    (hk : K (a.put o.dst undef) (w.setRow g cs.toArray)) : Oper.wp P o a w K Q :=
  opwp_skip (exec_store_agg ho g hp cs hx cur t hg hfit h1 hi) hk
theorem opwp_store_at (ty : TypeId) (p x : Operand) (g off : Nat) (cs cur : List Value) (t : TypeId) (ho : o.op = .store ty p x) (hp : a.eval p = .pointer (some ⟨g, off, none⟩))
    (hx : a.eval x = .agg cs.toArray) (hg : Blk w g t cur.toArray) (hfit : off + cs.length ≤ cur.length) (h1 : ∀ v ∈ cs, v.oneCell' = true)
    (hi : (P.info? ty).map (·.size) = some cs.length)
    (hk : K (a.put o.dst undef) (w.setRow g (splice cur off cs).toArray)) : Oper.wp P o a w K Q := by
  refine opwp_skip ?_ hk
  have hst := run_storeCells_at P g off t cs 0 cur.toArray w hg (by simpa using hfit) h1
  cases hq : P.info? ty with
  | none => simp [hq] at hi
  | some i =>
    have hs : i.size = cs.length := by simpa [hq] using hi
    unfold execOp
    simp only [ho, hp, hx]
    simp [Instr.storeAt, Instr.sureAddr, storeVar, sizeOf, typeInfo, hq, hs, Value.cells, hst, splice]
/-- the same, where the block is told by an existence (a walk's goal may not be parted by it) -/
theorem opwp_store_ex (ty : TypeId) (p x : Operand) (y : Value) (B : Nat) (cs cur : List Value) (ho : o.op = .store ty p x) (hp : a.eval p = y)
    (hx : a.eval x = .agg cs.toArray) (hex : ∃ q, y = .pointer (some ⟨q, 0, none⟩) ∧ B ≤ q ∧ Blk w q ty cur.toArray) (hfit : cs.length = cur.length) (h1 : ∀ v ∈ cs, v.oneCell' = true)
    (hi : (P.info? ty).map (·.size) = some cs.length)
    (hk : ∀ q, y = .pointer (some ⟨q, 0, none⟩) → K (a.put o.dst undef) (w.setRow q cs.toArray)) : Oper.wp P o a w K Q := by
  obtain ⟨q, hy, _, hb⟩ := hex
  exact opwp_store_agg ty p x q cs cur ty ho (hp.trans hy) hx hb hfit h1 hi (hk q hy)
end
end Go.Proofs.Ytmgbimdebhhckaa
