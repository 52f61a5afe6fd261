/- How a slice of digests reads. -/
import Derived.Test.YtmgbimdebhhckaaArgsD
import Derived.Test.YtmgbimdebhhckaaArgsT
import Derived.Test.YtmgbimdebhhckaaHistB
namespace Go.Proofs.Ytmgbimdebhhckaa
open Go.ChangeShapes Go.WideShapes Go.ChangeAt Go.RowKit

section
variable {H : Type} {enc : TypeId × Value → H} {w : World}
theorem open_digs {base : Nat} {v : Value} {d : DataW H} {p : List MemPlace}
    (hv : Value.okWide Try.prog w .any base 22 v) (h : DataW.Trod enc Try.prog w 0 (fun _ => true) true 22 v d p) :
    ∃ (A : Option Addr) (l : List (List UInt8)) (c : Nat), v = .slice A l.length c ∧ l.length ≤ maxLen ∧ l.length ≤ c ∧ DgIn w A l := by
  obtain ⟨a0, len0, cap0, rfl⟩ := okWide_slice Try.underlying22 hv
  obtain ⟨fuel, hf⟩ := h
  have hC : Try.prog.cellsOf 25 = 32 := by kernel_rfl
  rcases Go.Deep.open_slice Try.underlying22 hf with ⟨hcs, _⟩ | ⟨a, len, cap, m, n, D, Pl, hcs, _, hl, hm, hmm, _, hi⟩
  · simp [Value.cells] at hcs
    obtain ⟨rfl, rfl, rfl⟩ := hcs
    exact ⟨none, [], 0, rfl, by simp, by simp, fun i x hx => by simp at hx⟩
  · simp [Value.cells] at hcs
    obtain ⟨rfl, rfl, rfl⟩ := hcs
    have hlm : len0 ≤ m := by rw [hmm]; simpa using hl
    have key : ∀ i, i < len0 → ∃ (x : List UInt8), x.length = 32 ∧ ∃ bb off, a = ⟨bb, off, none⟩ ∧ bb < w.heap.size ∧ ∀ j v, (u8s x)[j]? = some v → w.cell? ⟨bb, off + i * 32 + j, none⟩ = some v := fun i hil => by
      obtain ⟨cs', hc, ht'⟩ := hi i (by omega)
      rw [hC] at hc
      obtain ⟨_, hcl, hat⟩ := World.cells?_some hc
      obtain ⟨x, hx32, rfl⟩ := open_bytesArr Try.underlying25 Try.underlying5 (by kernel_rfl) hC ht'
      obtain ⟨cs0, hc0, _⟩ := hi 0 (by omega)
      rw [hC] at hc0
      obtain ⟨_, hcl0, hat0⟩ := World.cells?_some hc0
      obtain ⟨bb, off, spot⟩ := a
      have h00 := hat0 0 (by omega)
      rw [List.getElem?_eq_getElem (by omega)] at h00
      have hs : spot = none := by simpa [Addr.add] using World.cell?_spot h00
      subst hs
      have hbw : bb < w.heap.size := by have := World.block_lt_of_cell? _ _ h00; simpa [addr_add0] using this
      refine ⟨x, hx32, bb, off, rfl, hbw, fun j v hv => ?_⟩
      have hj : j < 32 := by have := (List.getElem?_eq_some_iff.1 hv).1; simpa [hx32] using this
      have h1 := hat j (by omega)
      rw [addr_add0, addr_add0] at h1
      rw [h1]; exact hv
    obtain ⟨l, hll, hg⟩ := list_of _ len0 key
    subst hll
    refine ⟨some a, l, cap0, rfl, by omega, hl, fun i x hx => ?_⟩
    obtain ⟨h1, bb, off, h2, h3, h4⟩ := hg i x hx
    exact ⟨h1, bb, off, by rw [h2], h3, h4⟩
end
end Go.Proofs.Ytmgbimdebhhckaa
