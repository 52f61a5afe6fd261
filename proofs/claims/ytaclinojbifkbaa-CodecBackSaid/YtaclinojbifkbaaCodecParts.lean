/- Parts that came in: their cells. -/
import Derived.Test.YtaclinojbifkbaaArgs
import Derived.Test.YtaclinojbifkbaaCodecCK
namespace Go.Proofs.Ytaclinojbifkbaa
open Go.ChangeShapes Go.WideShapes Go.ChangeAt Go.RowKit

instance : Inhabited CPart := ⟨⟨0, 0, 0, 0, none, 0, [], [], none, 0, [], 0⟩⟩

theorem all_bytes (f : Nat → Int → Prop) : ∀ (cs : List Value), (∀ i, i < cs.length → ∃ n : Int, (cs.drop i).take 1 = [.int .u8 n] ∧ 0 ≤ n ∧ n ≤ 255) → ∃ d : List UInt8, cs = u8s d := by
  intro cs
  induction cs with
  | nil => exact fun _ => ⟨[], rfl⟩
  | cons c cs ih =>
    intro h
    obtain ⟨n, hn, h0, h1⟩ := h 0 (by simp)
    simp at hn
    obtain ⟨d, hd⟩ := ih (fun i hi => by
      obtain ⟨n, hn, hb⟩ := h (i + 1) (by simpa using hi)
      exact ⟨n, by simpa using hn, hb⟩)
    refine ⟨u8n n :: d, ?_⟩
    rw [hn, hd]
    simp only [u8s, List.map_cons, u8v]
    rw [← u8n_spec n h0 (by omega)]

section
variable {H : Type} {enc : TypeId × Value → H} {P : Program} {w : World} {spare : Nat → Bool} {held : Bool}
/-- An array of bytes, as the reader has it. -/
theorem open_byteArray {t e : TypeId} {n fuel : Nat} {cs : List Value} {x : DataW H × List MemPlace} (ht : P.underlying t = some (.array n e)) (he : P.underlying e = some (.int .u8)) (hc : P.cellsOf e = 1) (hn : P.cellsOf t = n)
    (h : DataW.trod enc P w 0 spare held fuel t cs = some x) : ∃ d : List UInt8, d.length = n ∧ cs = u8s d := by
  obtain ⟨xs, m, _, _, hl, hx, hi⟩ := DataW.trod_array ht h
  rw [hn] at hl
  obtain ⟨d, hd⟩ := all_bytes (fun _ _ => True) cs (fun i hi' => by
    have h1 := hi i (by omega)
    rw [hc, Nat.mul_one, List.getElem?_eq_getElem (by omega)] at h1
    obtain ⟨n1, e1, _, w1⟩ := DataW.trod_int he h1
    exact ⟨n1, e1, (wf_u8 w1).1, (wf_u8 w1).2⟩)
  exact ⟨d, by rw [← hl, hd]; simp [u8s], hd⟩
/-- A slice of int64. -/
theorem open_i64s {t e : TypeId} {fuel : Nat} {cs : List Value} {x : DataW H × List MemPlace} (ht : P.underlying t = some (.slice e)) (he : P.underlying e = some (.int .i64)) (hc : P.cellsOf e = 1)
    (h : DataW.trod enc P w 0 spare held fuel t cs = some x) :
    ∃ A l c, cs = [.slice A (List.length l) c] ∧ RdI w A l ∧ ∀ x ∈ l, -9223372036854775808 ≤ x ∧ x ≤ 9223372036854775807 := by
  rcases open_ints ht he hc h with ⟨rfl, _⟩ | ⟨a, len, cap, zs, rfl, _, hl, hm, hz, _, hcell, hwz⟩
  · exact ⟨none, [], 0, rfl, fun h => by simp at h, by simp⟩
  · have hlen : len ≤ zs.length := by rw [hz]; split <;> omega
    refine ⟨some a, zs.take len, cap, by simp [Nat.min_eq_left hlen], fun hp => ?_, fun x hx => wf_i64 (hwz x (List.mem_of_mem_take hx))⟩
    obtain ⟨b, off, spot⟩ := a
    have hp' : 0 < zs.length := by simp at hp; omega
    have hs : spot = none := by simpa [Addr.add] using World.cell?_spot (hcell 0 hp')
    subst hs
    refine ⟨b, off, rfl, fun j y hy => ?_⟩
    rw [List.getElem?_take] at hy
    split at hy
    · have hj : j < zs.length := (List.getElem?_eq_some_iff.1 hy).1
      have := hcell j hj
      rw [addr_add0] at this
      rw [this, List.getD_eq_getElem?_getD, hy]; rfl
    · simp at hy
end

theorem open_parts {H : Type} {enc : TypeId × Value → H} {W : World} {base : Nat} {v : Value} {d : DataW H} {p : List MemPlace}
    (vl : Value.okWide Try.prog W .any base 36 v) (h : DataW.Trod enc Try.prog W 0 (fun _ => true) true 36 v d p) :
    ∃ (A : Option Addr) (c : Nat) (l : List CPart), v = .slice A l.length c ∧ l.length ≤ maxLen ∧ PartsIn W A l := by
  obtain ⟨A, n, c, rfl, hn, _, hi⟩ := open_structs (C := 39) Try.underlying36 Try.underlying42 (by kernel_rfl) (by decide) vl h
  have hx : ∀ i, i < n → ∃ o : CPart, ∃ b off, A = some ⟨b, off, none⟩ ∧ b < W.heap.size ∧ PartAt W b (off + i * 39) o := by
    intro i him
    obtain ⟨b, off, hA, hb, cs, m, hcl, hc, hf⟩ := hi i him
    have tu8 : Try.prog.cellsOf 5 = 1 := by kernel_rfl
    have tint : Try.prog.cellsOf 3 = 1 := by kernel_rfl
    have ti64 : Try.prog.cellsOf 2 = 1 := by kernel_rfl
    have tbs : Try.prog.cellsOf 22 = 1 := by kernel_rfl
    have tdg : Try.prog.cellsOf 38 = 32 := by kernel_rfl
    have trw : Try.prog.cellsOf 40 = 1 := by kernel_rfl
    obtain ⟨y0, g0⟩ := hf 0 _ rfl
    have h0 : DataW.trod enc Try.prog W 0 (fun _ => true) true m 5 ((cs.drop 0).take (Try.prog.cellsOf 5)) = some y0 := g0
    obtain ⟨y1, g1⟩ := hf 1 _ rfl
    have h1 : DataW.trod enc Try.prog W 0 (fun _ => true) true m 5 ((cs.drop 1).take (Try.prog.cellsOf 5)) = some y1 := g1
    obtain ⟨y2, g2⟩ := hf 2 _ rfl
    have h2 : DataW.trod enc Try.prog W 0 (fun _ => true) true m 3 ((cs.drop 2).take (Try.prog.cellsOf 3)) = some y2 := g2
    obtain ⟨y3, g3⟩ := hf 3 _ rfl
    have h3 : DataW.trod enc Try.prog W 0 (fun _ => true) true m 2 ((cs.drop 3).take (Try.prog.cellsOf 2)) = some y3 := g3
    obtain ⟨y4, g4⟩ := hf 4 _ rfl
    have h4 : DataW.trod enc Try.prog W 0 (fun _ => true) true m 22 ((cs.drop 4).take (Try.prog.cellsOf 22)) = some y4 := g4
    obtain ⟨y5, g5⟩ := hf 5 _ rfl
    have h5 : DataW.trod enc Try.prog W 0 (fun _ => true) true m 38 ((cs.drop 5).take (Try.prog.cellsOf 38)) = some y5 := g5
    obtain ⟨y6, g6⟩ := hf 6 _ rfl
    have h6 : DataW.trod enc Try.prog W 0 (fun _ => true) true m 40 ((cs.drop 37).take (Try.prog.cellsOf 40)) = some y6 := g6
    obtain ⟨y7, g7⟩ := hf 7 _ rfl
    have h7 : DataW.trod enc Try.prog W 0 (fun _ => true) true m 3 ((cs.drop 38).take (Try.prog.cellsOf 3)) = some y7 := g7
    rw [tu8] at h0 h1; rw [tint] at h2 h7; rw [ti64] at h3; rw [tbs] at h4; rw [tdg] at h5; rw [trw] at h6
    obtain ⟨n0, e0, _, w0⟩ := DataW.trod_int Try.underlying5 h0
    obtain ⟨n1, e1, _, w1⟩ := DataW.trod_int Try.underlying5 h1
    obtain ⟨n2, e2, _, w2⟩ := DataW.trod_int Try.underlying3 h2
    obtain ⟨n3, e3, _, w3⟩ := DataW.trod_int Try.underlying2 h3
    obtain ⟨BA, bl, bc, e4, _, _, hrd⟩ := open_bytes Try.underlying22 Try.underlying5 tu8 h4
    obtain ⟨dg, hdl, e5⟩ := open_byteArray Try.underlying38 Try.underlying5 tu8 tdg h5
    obtain ⟨RA, r, rc, e6, hri, hrb⟩ := open_i64s Try.underlying40 Try.underlying2 ti64 h6
    obtain ⟨n7, e7, _, w7⟩ := DataW.trod_int Try.underlying3 h7
    obtain ⟨k0, rfl⟩ := byte_n w0
    obtain ⟨k1, rfl⟩ := byte_n w1
    have hcs : cs = (CPart.mk k0 k1 n2 n3 BA bc bl dg RA rc r n7).cells := by
      have e : cs = (cs.drop 0).take 1 ++ ((cs.drop 1).take 1 ++ ((cs.drop 2).take 1 ++ ((cs.drop 3).take 1 ++ ((cs.drop 4).take 1 ++ ((cs.drop 5).take 32 ++ ((cs.drop 37).take 1 ++ (cs.drop 38).take 1)))))) := by
        have : ∀ (a k : Nat), (cs.drop a).take k ++ cs.drop (a + k) = cs.drop a := fun a k => by rw [← List.drop_drop]; exact List.take_append_drop k _
        have e38 : (cs.drop 38).take 1 = cs.drop 38 := List.take_of_length_le (by simp [hcl])
        rw [e38, this 37 1, this 5 32, this 4 1, this 3 1, this 2 1, this 1 1, this 0 1]; rfl
      rw [e, e0, e1, e2, e3, e4, e5, e6, e7]
      simp [CPart.cells]
    subst hcs
    exact ⟨⟨k0, k1, n2, n3, BA, bc, bl, dg, RA, rc, r, n7⟩, b, off, hA, hb, ⟨fun j v hv => by
      have hj : j < 39 := by rw [← hcl]; exact (List.getElem?_eq_some_iff.1 hv).1
      rw [hc j hj]; exact hv, hdl, wf_i64 w2, wf_i64 w3, wf_i64 w7, hrd, hri, hrb⟩⟩
  obtain ⟨f, hf⟩ := Go.Deep.choose_lt hx
  refine ⟨A, c, (List.range n).map f, by simp, by simpa using hn, fun j o ho => ?_⟩
  simp only [List.getElem?_map, Option.map_eq_some_iff] at ho
  obtain ⟨j', hj', rfl⟩ := ho
  obtain ⟨hjn, rfl⟩ : j < n ∧ j' = j := by
    have := List.getElem?_eq_some_iff.1 hj'
    obtain ⟨h1, h2⟩ := this
    simp at h1 h2
    exact ⟨h1, h2.symm⟩
  exact hf j' hjn
end Go.Proofs.Ytaclinojbifkbaa
