/- How arguments read: slices of bytes, slices of structs; over any program. -/
import Derived.Test.YtmgbimdebhhckaaMem
import Derived.ProofKit
import Derived.OpenShut
import Derived.ChangeOld
import Derived.Deep.Slices
namespace Go.Proofs.Ytmgbimdebhhckaa
open Go.ChangeShapes Go.WideShapes Go.ChangeAt Go.RowKit

def u8n (x : Int) : UInt8 := UInt8.ofNat x.toNat
theorem u8n_spec (x : Int) (h0 : 0 ≤ x) (h1 : x < 256) : x = ((u8n x).toNat : Int) := by
  unfold u8n
  rw [UInt8.toNat_ofNat']
  omega
theorem wf_u8 {n : Int} (wn : (Lit.int .u8 n).wf = true) : 0 ≤ n ∧ n ≤ 255 := by simpa [Lit.wf, IntKind.min, IntKind.max, IntKind.signed, IntKind.bits] using wn
theorem wf_i64 {n : Int} (wn : (Lit.int .i64 n).wf = true) : -9223372036854775808 ≤ n ∧ n ≤ 9223372036854775807 := by simpa [Lit.wf, IntKind.min, IntKind.max, IntKind.signed, IntKind.bits] using wn
theorem byte_n {n : Int} (wn : (Lit.int .u8 n).wf = true) : ∃ y : UInt8, n = (y.toNat : Int) :=
  ⟨u8n n, u8n_spec n (wf_u8 wn).1 (by have := (wf_u8 wn).2; omega)⟩

section
variable {H : Type} {enc : TypeId × Value → H} {P : Program} {w : World} {spare : Nat → Bool} {held : Bool}
/-- A slice of bytes, as the reader has it. -/
theorem open_bytes {t e : TypeId} {fuel : Nat} {cs : List Value} {x : DataW H × List MemPlace} (ht : P.underlying t = some (.slice e)) (he : P.underlying e = some (.int .u8)) (hc : P.cellsOf e = 1)
    (h : DataW.trod enc P w 0 spare held fuel t cs = some x) :
    ∃ A l c, cs = [.slice A (List.length l) c] ∧ l.length ≤ c ∧ c ≤ maxLen ∧ Rd w A l := by
  rcases open_ints ht he hc h with ⟨rfl, _⟩ | ⟨a, len, cap, zs, rfl, _, hl, hm, hz, _, hcell, hwz⟩
  · exact ⟨none, [], 0, rfl, by simp, by simp, fun h => by simp at h⟩
  · have hlen : len ≤ zs.length := by rw [hz]; split <;> omega
    refine ⟨some a, (zs.take len).map u8n, cap, by simp [Nat.min_eq_left hlen], by simp; omega, hm, fun hp => ?_⟩
    obtain ⟨b, off, spot⟩ := a
    have hp' : 0 < zs.length := by simp at hp; omega
    have hs : spot = none := by simpa [Addr.add] using World.cell?_spot (hcell 0 hp')
    subst hs
    refine ⟨b, off, rfl, fun j y hy => ?_⟩
    simp only [List.getElem?_map, Option.map_eq_some_iff] at hy
    obtain ⟨z, hz', rfl⟩ := hy
    rw [List.getElem?_take] at hz'
    split at hz'
    · have hj : j < zs.length := (List.getElem?_eq_some_iff.1 hz').1
      have := hcell j hj
      rw [addr_add0] at this
      rw [this]
      have e : zs.getD j 0 = z := by rw [List.getD_eq_getElem?_getD, hz']; rfl
      rw [e]
      have hwf := wf_u8 (hwz z (List.mem_of_getElem? hz'))
      rw [u8v, ← u8n_spec z hwf.1 (by omega)]
    · simp at hz'

/-- A slice of bytes that came in as an argument. -/
theorem open_bytesV {base : Nat} {t e : TypeId} {v : Value} {d : DataW H} {p : List MemPlace} (ht : P.underlying t = some (.slice e)) (he : P.underlying e = some (.int .u8)) (hc : P.cellsOf e = 1)
    (hv : Value.okWide P w .any base t v) (h : DataW.Trod enc P w 0 (fun _ => true) true t v d p) :
    ∃ A l c, v = .slice A (List.length l) c ∧ l.length ≤ c ∧ c ≤ maxLen ∧ Rd w A l := by
  obtain ⟨a0, len0, cap0, rfl⟩ := okWide_slice ht hv
  obtain ⟨fuel, hf⟩ := h
  obtain ⟨A, l, c, e1, h1, h2, h3⟩ := open_bytes ht he hc hf
  simp [Value.cells] at e1
  obtain ⟨rfl, rfl, rfl⟩ := e1
  exact ⟨_, l, _, rfl, h1, h2, h3⟩

/-- A slice of structs, each opened to its cells. -/
theorem open_structs {base : Nat} {t e : TypeId} {fs : Array Field} {C : Nat} {v : Value} {d : DataW H} {p : List MemPlace} (ht : P.underlying t = some (.slice e)) (he : P.underlying e = some (.struct fs)) (hC : P.cellsOf e = C) (hC0 : 0 < C)
    (hv : Value.okWide P w .any base t v) (h : DataW.Trod enc P w 0 (fun _ => true) true t v d p) :
    ∃ (A : Option Addr) (n c : Nat), v = .slice A n c ∧ n ≤ maxLen ∧ n ≤ c ∧ ∀ i, i < n → ∃ b off, A = some ⟨b, off, none⟩ ∧ b < w.heap.size ∧ ∃ (cs : List Value) (m : Nat), cs.length = C ∧
      (∀ j, j < C → w.cell? ⟨b, off + i * C + j, none⟩ = cs[j]?) ∧
      ∀ (k : Nat) (f : Field), fs[k]? = some f → ∃ y, DataW.trod enc P w 0 (fun _ => true) true m f.type ((cs.drop f.offset).take (P.cellsOf f.type)) = some y := by
  obtain ⟨a0, len0, cap0, rfl⟩ := okWide_slice ht hv
  obtain ⟨fuel, hf⟩ := h
  rcases Go.Deep.open_slice ht hf with ⟨hcs, _⟩ | ⟨a, len, cap, m, n, D, Pl, hcs, _, hl, hm, hmm, _, hi⟩
  · simp [Value.cells] at hcs
    obtain ⟨rfl, rfl, rfl⟩ := hcs
    exact ⟨none, 0, 0, rfl, by simp, by simp, fun i hi => absurd hi (by omega)⟩
  · simp [Value.cells] at hcs
    obtain ⟨rfl, rfl, rfl⟩ := hcs
    refine ⟨some a, len0, cap0, rfl, by omega, hl, fun i him => ?_⟩
    have hlm : len0 ≤ m := by rw [hmm]; simpa using hl
    obtain ⟨cs', hc, ht'⟩ := hi i (by omega)
    rw [hC] at hc
    obtain ⟨_, hcl, hat⟩ := World.cells?_some hc
    obtain ⟨xs, n', _, _, _, hxl, hg⟩ := DataW.trod_struct he ht'
    -- where the slice begins there is a cell
    obtain ⟨cs0, hc0, _⟩ := hi 0 (by omega)
    rw [hC] at hc0
    obtain ⟨_, hcl0, hat0⟩ := World.cells?_some hc0
    obtain ⟨b, off, spot⟩ := a
    have h00 := hat0 0 hC0
    rw [List.getElem?_eq_getElem (by omega)] at h00
    have hs : spot = none := by simpa [Addr.add] using World.cell?_spot h00
    subst hs
    have hb : b < w.heap.size := by have := World.block_lt_of_cell? _ _ h00; simpa [addr_add0] using this
    refine ⟨b, off, rfl, hb, cs', n', hcl, fun j hj => ?_, fun k f hk => ?_⟩
    · have := hat j hj
      rw [addr_add0, addr_add0] at this
      exact this
    · have hk' : k < fs.size := (Array.getElem?_eq_some_iff.1 hk).1
      exact ⟨xs[k]'(by omega), by rw [hg k f hk]; simp⟩
end
end Go.Proofs.Ytmgbimdebhhckaa
