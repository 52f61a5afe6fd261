/- How arguments read: arrays of bytes. -/
import Derived.Test.YtmgbimdebhhckaaArgs
namespace Go.Proofs.Ytmgbimdebhhckaa
open Go.ChangeShapes Go.WideShapes Go.ChangeAt Go.RowKit

theorem bytes_all : ∀ (cs : List Value), (∀ i, i < cs.length → ∃ n : Int, (cs.drop i).take 1 = [.int .u8 n] ∧ 0 ≤ n ∧ n ≤ 255) → ∃ d : List UInt8, cs = u8s d := by
  intro cs
  induction cs with
  | nil => exact fun _ => ⟨[], rfl⟩
  | cons c cs ih =>
    intro h
    obtain ⟨n, hn, h0, h1⟩ := h 0 (by simp)
    simp at hn
    obtain ⟨d, hd⟩ := ih (fun i hi => by
      obtain ⟨n, hn, hb⟩ := h (i + 1) (by simpa using hi)
      exact ⟨n, by simpa using hn, hb⟩)
    refine ⟨u8n n :: d, ?_⟩
    rw [hn, hd]
    simp only [u8s, List.map_cons, u8v]
    rw [← u8n_spec n h0 (by omega)]
section
variable {H : Type} {enc : TypeId × Value → H} {P : Program} {w : World} {spare : Nat → Bool} {held : Bool}
/-- An array of bytes, as the reader has it. -/
theorem open_bytesArr {t e : TypeId} {n fuel : Nat} {cs : List Value} {x : DataW H × List MemPlace} (ht : P.underlying t = some (.array n e)) (he : P.underlying e = some (.int .u8)) (hc : P.cellsOf e = 1) (hn : P.cellsOf t = n)
    (h : DataW.trod enc P w 0 spare held fuel t cs = some x) : ∃ d : List UInt8, d.length = n ∧ cs = u8s d := by
  obtain ⟨xs, m, _, _, hl, hx, hi⟩ := DataW.trod_array ht h
  rw [hn] at hl
  obtain ⟨d, hd⟩ := bytes_all cs (fun i hi' => by
    have h1 := hi i (by omega)
    rw [hc, Nat.mul_one, List.getElem?_eq_getElem (by omega)] at h1
    obtain ⟨n1, e1, _, w1⟩ := DataW.trod_int he h1
    exact ⟨n1, e1, (wf_u8 w1).1, (wf_u8 w1).2⟩)
  exact ⟨d, by rw [← hl, hd]; simp [u8s], hd⟩
theorem okWide_array {P : Program} {w : World} {r : Reach} {base : Nat} {t : TypeId} {v : Value} {n : Nat} {e : TypeId} (ht : P.underlying t = some (.array n e)) (h : Value.okWide P w r base t v) : ∃ cs, v = .agg cs ∧ cs.size = P.cellsOf t := by
  unfold Value.okWide at h
  rw [ht] at h
  cases v <;> simp_all
/-- An array of bytes that came in as an argument. -/
theorem open_arrV {base : Nat} {t e : TypeId} {n : Nat} {v : Value} {d : DataW H} {p : List MemPlace} (ht : P.underlying t = some (.array n e)) (he : P.underlying e = some (.int .u8)) (hc : P.cellsOf e = 1) (hn : P.cellsOf t = n)
    (hv : Value.okWide P w .any base t v) (h : DataW.Trod enc P w 0 (fun _ => true) true t v d p) : ∃ l : List UInt8, l.length = n ∧ v = .agg (u8s l).toArray := by
  obtain ⟨cs, rfl, _⟩ := okWide_array ht hv
  obtain ⟨fuel, hf⟩ := h
  obtain ⟨l, hl, e1⟩ := open_bytesArr ht he hc hn hf
  simp [Value.cells] at e1
  exact ⟨l, hl, by rw [← e1]⟩
end
end Go.Proofs.Ytmgbimdebhhckaa
