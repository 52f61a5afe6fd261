/- A script that came in: its operations lie in its cells. -/
import Derived.Test.YtccmaeifafcocaaArgs
import Derived.Test.YtccmaeifafcocaaDiskCopiesW
namespace Go.Proofs.Ytccmaeifafcocaa
open Go.ChangeShapes Go.WideShapes Go.ChangeAt Go.RowKit

instance : Inhabited DOp := ⟨⟨0, 0, none, 0, [], false, 0⟩⟩

theorem open_ops {H : Type} {enc : TypeId × Value → H} {W : World} {base : Nat} {v : Value} {d : DataW H} {p : List MemPlace}
    (vl : Value.okWide Try.prog W .any base 34 v) (h : DataW.Trod enc Try.prog W 0 (fun _ => true) true 34 v d p) :
    ∃ (A : Option Addr) (c : Nat) (l : List DOp), v = .slice A l.length c ∧ l.length ≤ maxLen ∧ OpsIn W A l := by
  obtain ⟨A, n, c, rfl, hn, _, hi⟩ := open_structs (C := 5) Try.underlying34 Try.underlying40 (by kernel_rfl) (by decide) vl h
  have hx : ∀ i, i < n → ∃ o : DOp, ∃ b off, A = some ⟨b, off, none⟩ ∧ b < W.heap.size ∧ OpAt W b (off + i * 5) o := by
    intro i him
    obtain ⟨b, off, hA, hb, cs, m, hcl, hc, hf⟩ := hi i him
    have t5 : Try.prog.cellsOf 5 = 1 := by kernel_rfl
    have t3 : Try.prog.cellsOf 3 = 1 := by kernel_rfl
    have t28 : Try.prog.cellsOf 28 = 1 := by kernel_rfl
    have t4 : Try.prog.cellsOf 4 = 1 := by kernel_rfl
    match cs, hcl with
    | [x0, x1, x2, x3, x4], _ =>
      obtain ⟨y0, g0⟩ := hf 0 _ rfl
      have h0 : DataW.trod enc Try.prog W 0 (fun _ => true) true m 5 (([x0, x1, x2, x3, x4].drop 0).take (Try.prog.cellsOf 5)) = some y0 := g0
      obtain ⟨y1, g1⟩ := hf 1 _ rfl
      have h1 : DataW.trod enc Try.prog W 0 (fun _ => true) true m 3 (([x0, x1, x2, x3, x4].drop 1).take (Try.prog.cellsOf 3)) = some y1 := g1
      obtain ⟨y2, g2⟩ := hf 2 _ rfl
      have h2 : DataW.trod enc Try.prog W 0 (fun _ => true) true m 28 (([x0, x1, x2, x3, x4].drop 2).take (Try.prog.cellsOf 28)) = some y2 := g2
      obtain ⟨y3, g3⟩ := hf 3 _ rfl
      have h3 : DataW.trod enc Try.prog W 0 (fun _ => true) true m 4 (([x0, x1, x2, x3, x4].drop 3).take (Try.prog.cellsOf 4)) = some y3 := g3
      obtain ⟨y4, g4⟩ := hf 4 _ rfl
      have h4 : DataW.trod enc Try.prog W 0 (fun _ => true) true m 3 (([x0, x1, x2, x3, x4].drop 4).take (Try.prog.cellsOf 3)) = some y4 := g4
      rw [t5] at h0; rw [t3] at h1 h4; rw [t28] at h2; rw [t4] at h3
      simp only [List.drop_zero, List.drop_succ_cons, List.take_succ_cons, List.take_zero] at h0 h1 h2 h3 h4
      obtain ⟨n0, e0, _, w0⟩ := DataW.trod_int Try.underlying5 h0
      obtain ⟨n1, e1, _, w1⟩ := DataW.trod_int Try.underlying3 h1
      obtain ⟨BA, bl, bc, e2, hbl, _, hrd⟩ := open_bytes Try.underlying28 Try.underlying5 t5 h2
      obtain ⟨b3, e3, _⟩ := DataW.trod_bool Try.underlying4 h3
      obtain ⟨n4, e4, _, w4⟩ := DataW.trod_int Try.underlying3 h4
      simp only [List.cons.injEq, and_true] at e0 e1 e2 e3 e4
      subst e0 e1 e2 e3 e4
      obtain ⟨k, rfl⟩ := byte_n w0
      exact ⟨⟨k, n1, BA, bc, bl, b3, n4⟩, b, off, hA, hb, ⟨hc 0 (by omega), hc 1 (by omega), hc 2 (by omega), hc 3 (by omega), hc 4 (by omega), wf_i64 w1, wf_i64 w4, hrd, hbl⟩⟩
  obtain ⟨f, hf⟩ := Go.Deep.choose_lt hx
  refine ⟨A, c, (List.range n).map f, by simp, by simpa using hn, fun j o ho => ?_⟩
  simp only [List.getElem?_map, Option.map_eq_some_iff] at ho
  obtain ⟨j', hj', rfl⟩ := ho
  obtain ⟨hjn, rfl⟩ : j < n ∧ j' = j := by
    have := List.getElem?_eq_some_iff.1 hj'
    obtain ⟨h1, h2⟩ := this
    simp at h1 h2
    exact ⟨h1, h2.symm⟩
  exact hf j' hjn
end Go.Proofs.Ytccmaeifafcocaa
