/- How a slice of slices of bytes reads. -/
import Derived.Test.YtmgbimdebhhckaaArgs
import Derived.Test.YtmgbimdebhhckaaShaI
namespace Go.Proofs.Ytmgbimdebhhckaa
open Go.ChangeShapes Go.WideShapes Go.ChangeAt Go.RowKit

theorem list_of {α : Type} (G : Nat → α → Prop) : ∀ n, (∀ i, i < n → ∃ x, G i x) → ∃ l : List α, l.length = n ∧ ∀ i x, l[i]? = some x → G i x
  | 0, _ => ⟨[], rfl, fun i x hx => by simp at hx⟩
  | n + 1, h => by
    obtain ⟨l, hl, hg⟩ := list_of G n (fun i hi => h i (by omega))
    obtain ⟨x, hx⟩ := h n (by omega)
    refine ⟨l ++ [x], by simp [hl], fun i y hy => ?_⟩
    by_cases hi : i < n
    · rw [List.getElem?_append_left (by omega)] at hy
      exact hg i y hy
    · rw [List.getElem?_append_right (by omega)] at hy
      have : i = n := by have := (List.getElem?_eq_some_iff.1 hy).1; simp at this; omega
      subst this
      simp [hl] at hy
      subst hy
      exact hx
section
variable {H : Type} {enc : TypeId × Value → H} {P : Program} {w : World}
theorem open_texts {base : Nat} {t e b : TypeId} {v : Value} {d : DataW H} {p : List MemPlace} (ht : P.underlying t = some (.slice e)) (he : P.underlying e = some (.slice b)) (hb : P.underlying b = some (.int .u8)) (hc1 : P.cellsOf b = 1) (hC : P.cellsOf e = 1)
    (hv : Value.okWide P w .any base t v) (h : DataW.Trod enc P w 0 (fun _ => true) true t v d p) :
    ∃ (A : Option Addr) (l : List (List UInt8)) (c : Nat), v = .slice A l.length c ∧ l.length ≤ maxLen ∧ l.length ≤ c ∧ TxIn w A l ∧ ∀ (i : Nat) (x : List UInt8), l[i]? = some x → x.length ≤ maxLen := by
  obtain ⟨a0, len0, cap0, rfl⟩ := okWide_slice ht hv
  obtain ⟨fuel, hf⟩ := h
  rcases Go.Deep.open_slice ht hf with ⟨hcs, _⟩ | ⟨a, len, cap, m, n, D, Pl, hcs, _, hl, hm, hmm, _, hi⟩
  · simp [Value.cells] at hcs
    obtain ⟨rfl, rfl, rfl⟩ := hcs
    exact ⟨none, [], 0, rfl, by simp, by simp, TxIn.nil _ _, fun i x hx => by simp at hx⟩
  · simp [Value.cells] at hcs
    obtain ⟨rfl, rfl, rfl⟩ := hcs
    have hlm : len0 ≤ m := by rw [hmm]; simpa using hl
    have key : ∀ i, i < len0 → ∃ (x : List UInt8) (bb off : Nat) (A : Option Addr) (c : Nat), a = ⟨bb, off, none⟩ ∧ bb < w.heap.size ∧ w.cell? ⟨bb, off + i, none⟩ = some (.slice A x.length c) ∧ Rd w A x ∧ x.length ≤ maxLen := fun i him => by
      obtain ⟨cs', hc, ht'⟩ := hi i (by omega)
      rw [hC] at hc
      obtain ⟨_, hcl, hat⟩ := World.cells?_some hc
      obtain ⟨A, x, c, hcs', hxc, hcm, hr⟩ := open_bytes he hb hc1 ht'
      subst hcs'
      obtain ⟨cs0, hc0, _⟩ := hi 0 (by omega)
      rw [hC] at hc0
      obtain ⟨_, hcl0, hat0⟩ := World.cells?_some hc0
      obtain ⟨bb, off, spot⟩ := a
      have h00 := hat0 0 (by omega)
      rw [List.getElem?_eq_getElem (by omega)] at h00
      have hs : spot = none := by simpa [Addr.add] using World.cell?_spot h00
      subst hs
      have hbw : bb < w.heap.size := by have := World.block_lt_of_cell? _ _ h00; simpa [addr_add0] using this
      have h1 := hat 0 (by omega)
      rw [addr_add0, addr_add0] at h1
      refine ⟨x, bb, off, A, c, rfl, hbw, ?_, hr, by omega⟩
      simpa using h1
    obtain ⟨l, hll, hg⟩ := list_of _ len0 key
    subst hll
    refine ⟨some a, l, cap0, rfl, by omega, hl, fun i x hx => ?_, fun i x hx => ?_⟩
    · obtain ⟨bb, off, A, c, h1, h2, h3, h4, _⟩ := hg i x hx
      exact ⟨bb, off, A, c, by rw [h1], h2, h3, h4⟩
    · obtain ⟨_, _, _, _, _, _, _, _, h5⟩ := hg i x hx
      exact h5
end
end Go.Proofs.Ytmgbimdebhhckaa
