/- A region that draws its order, by an invariant over what has come up: one step an operation, however many orders there are. -/
import Derived.Test.YtmgbimdebhhckaaMem
import Derived.Orders
namespace Go.Proofs.Ytmgbimdebhhckaa
open Go.RowKit

variable {P : Program} {ops : Array Oper} {Q : Exit → Act → World → Prop}

def todo (l : Array Bool) : Nat := l.toList.count false
theorem todo_set {l : Array Bool} {i : Nat} (h : l.getD i true = false) : todo (l.setIfInBounds i true) + 1 = todo l := by
  have hi : i < l.size := by
    rcases Nat.lt_or_ge i l.size with h' | h'
    · exact h'
    · simp [Array.getElem?_eq_none h'] at h
  have hv : l.toList[i]'(by simpa using hi) = false := by
    simp [hi] at h
    simpa using h
  unfold todo
  rw [Array.toList_setIfInBounds]
  have : ∀ (xs : List Bool) (i : Nat) (hi : i < xs.length), xs[i] = false → (xs.set i true).count false + 1 = xs.count false := by
    intro xs
    induction xs with
    | nil => intro i hi; simp at hi
    | cons x xs ih =>
      intro i hi hx
      cases i with
      | zero => simp at hx; subst hx; simp
      | succ i =>
        simp only [List.set_cons_succ, List.count_cons]
        have := ih i (by simpa using hi) (by simpa using hx)
        omega
  exact this _ i (by simpa using hi) hv
theorem wpAny_inv (Inv : Array Bool → Act → World → Prop)
    (hstep : ∀ l a w i, Inv l a w → i ∈ Region.ready .any ops l → wpOp P ops Q i (Inv (l.setIfInBounds i true)) a w)
    (hdone : ∀ l a w, Inv l a w → Region.ready .any ops l = [] → Q .normal a w) :
    ∀ (fuel : Nat) (l : Array Bool) (a : Act) (w : World), todo l ≤ fuel → Inv l a w → wpAny P .any ops Q fuel l a w := by
  intro fuel
  induction fuel with
  | zero =>
    intro l a w ht hi
    have hr : Region.ready .any ops l = [] := by
      rw [List.eq_nil_iff_forall_not_mem]
      intro i hm
      have := todo_set (mem_ready.1 hm).1
      omega
    exact ⟨hr, hdone l a w hi hr⟩
  | succ fuel ih =>
    intro l a w ht hi
    refine ⟨fun hr => hdone l a w hi hr, fun i hm => wpOp_mono (fun a' w' h' => ih _ a' w' ?_ h') (hstep l a w i hi hm)⟩
    have := todo_set (mem_ready.1 hm).1
    omega
theorem wp_region_inv {id : Nat} {a : Act} {w : World} (hm : P.follows .mixedOrders = true) (Inv : Array Bool → Act → World → Prop)
    (h0 : Inv (Array.replicate ops.size false) a w.drew)
    (hstep : ∀ l a w i, Inv l a w → i ∈ Region.ready .any ops l → wpOp P ops Q i (Inv (l.setIfInBounds i true)) a w)
    (hdone : ∀ l a w, Inv l a w → Region.ready .any ops l = [] → Q .normal a w) : (Code.region id ops true).wp P Q a w := by
  refine wp_region_any hm (wpAny_inv Inv hstep hdone ops.size _ a w.drew ?_ h0)
  unfold todo
  simp

/-- all have come up, where none may -/
theorem all_done {l : Array Bool} (hn : l.size = ops.size) (hdep : ∀ j o, ops[j]? = some o → ∀ e ∈ o.after, Region.binds .any e = true → e.on < j) (hr : Region.ready .any ops l = []) : ∀ j, j < ops.size → l.getD j false = true := by
  intro j
  induction j using Nat.strongRecOn with
  | _ j ih =>
    intro hj
    cases hv : l.getD j false with
    | true => rfl
    | false =>
      have hmem : j ∈ Region.ready .any ops l := by
        refine mem_ready.2 ⟨?_, ops[j], by simp [hj], fun e he hb => ih e.on (hdep j _ (by simp [hj]) e he hb) (Nat.lt_trans (hdep j _ (by simp [hj]) e he hb) hj)⟩
        have hjl : j < l.size := by omega
        simp [hjl] at hv ⊢
        exact hv
      rw [hr] at hmem
      simp at hmem
def depsOk (ops : Array Oper) : Bool := ops.toList.zipIdx.all fun (o, j) => o.after.toList.all fun e => !(Region.binds .any e) || decide (e.on < j)
theorem all_done' {l : Array Bool} (hn : l.size = ops.size) (hdep : depsOk ops = true) (hr : Region.ready .any ops l = []) : ∀ j, j < ops.size → l.getD j false = true := by
  refine all_done hn (fun j o ho e he hb => ?_) hr
  unfold depsOk at hdep
  rw [List.all_eq_true] at hdep
  have h1 := hdep (o, j) (by rw [List.mem_zipIdx_iff_getElem?]; simpa using ho)
  rw [List.all_eq_true] at h1
  have h2 := h1 e (by simpa using he)
  simp [hb] at h2
  exact h2
/-- the step of one operation -/
theorem wpOp_of {i : Nat} {o : Oper} {K : Act → World → Prop} {a : Act} {w : World} (ho : ops[i]? = some o) (hg : o.guard = none) (h : Oper.wp P o a w K Q) : wpOp P ops Q i K a w := by
  unfold wpOp
  rw [ho]
  simp only [Region.wanted, hg, if_true]
  exact .inl h
end Go.Proofs.Ytmgbimdebhhckaa
