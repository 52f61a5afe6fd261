/- Rows of bytes of the call's own, appended to. -/
import Derived.Test.YtmgbimdebhhckaaMem
import Derived.Test.YtmgbimdebhhckaaProg
import Derived.Test.YtmgbimdebhhckaaChecked
import Derived.RegionTactic
import Derived.Outline
import Derived.KernelRfl
import Derived.Deep.RegionLaw
import Derived.Deep.DeepCutAuto
import Derived.Laws.OwnMore
namespace Go.Proofs.Ytmgbimdebhhckaa
open Go.RowKit
set_option linter.unusedVariables false

theorem infoB : (Try.prog.info? 5).map (fun i => (i.zero, i.size, i.bytes)) = some (some (.int .u8 0), 1, 1) := by kernel_rfl
/-- a row of bytes that the call has made -/
def OwnB (w : World) (l : List UInt8) (e : Ending) (w' : World) : Prop :=
  ∃ A c, e = .returned (.slice A l.length c) ∧ w'.ownsRow w.heap.size 5 1 (.slice A l.length c) l.length (u8s l) ∧ Fr [] w w'
theorem OwnB.mk' {w w' : World} {l : List UInt8} {v : Value} {n : Nat} (h : w'.ownsRow w.heap.size 5 1 v n (u8s l)) (hf : Fr [] w w') : OwnB w l (.returned v) w' := by
  obtain ⟨A, c, rfl, h'⟩ := own_form h
  exact ⟨A, c, rfl, h', hf⟩
/-- one byte in a new block -/
theorem rd_one (w : World) (x : UInt8) (t : TypeId) : Rd (w.alloc (.cells #[u8v x] t)) (some ⟨w.heap.size, 0, none⟩) [x] := fun _ =>
  ⟨_, 0, rfl, fun j y hy => by
    have hb := Blk.new w t #[u8v x]
    rw [hb.cell]
    cases j with
    | zero => simp at hy; subst hy; rfl
    | succ j => simp at hy⟩
/-- append of bytes to a row of the call's own -/
theorem appU8 {ops : Array Oper} {rest : List Oper} {o : Oper} {a : Act} {w : World} {Q : Exit → Act → World → Prop} (hgd : o.guard = none) (s x : Operand)
    (ho : o.op = .call { callee := .builtin .append, args := #[s, x], argTypes := #[45, 45] })
    (base : Nat) (v : Value) (n : Nat) (xs : List UInt8) (hs : a.eval s = v) (hown : w.ownsRow base 5 1 v n (u8s xs))
    (A : Option Addr) (m c : Nat) (l : List UInt8) (hx : a.eval x = .slice A m c) (hl : l.length = m) (hr : Rd w A l) (hbd : n + m ≤ 1000000000) (hbase : base ≤ w.heap.size)
    (h : ∀ A' c' w', w'.ownsRow base 5 1 (.slice A' (n + m) c') (n + m) (u8s (xs ++ l)) → Fr v.ownBlock.toList w w' → ((Value.slice A' (n + m) c').ownBlock = v.ownBlock ∨ (Value.slice A' (n + m) c').ownBlock = some w.heap.size) → wpList Try.prog ops Q rest (a.put o.dst (.slice A' (n + m) c')) w') :
    wpList Try.prog ops Q (o :: rest) a w := by
  refine wpList_append hgd s x 45 ho base 5 (.int .u8 0) 1 1 Try.underlying45 infoB rfl (by decide) v n (u8s xs) hs hown A m c (u8s l) hx (by simp [hl]) hr.srcAll (u8s_one _) (by unfold maxLen; omega) (by omega) hbase ?_
  intro v' w' ho' _ hg hb
  rw [← u8s_append] at ho'
  obtain ⟨A1, c1, rfl, ho2⟩ := own_form ho'
  have e : (xs ++ l).length = n + m := by have := ho'.1; simp at this; simp [hl]; omega
  rw [e] at ho2 hb ⊢
  exact h A1 c1 w' ho2 ((Fr.refl _ _).grown hg (fun k hk => .inl (by simp [hk]))) hb

theorem ownB_blk {w : World} {base : Nat} {A : Option Addr} {m c : Nat} {l : List UInt8} (h : w.ownsRow base 5 1 (.slice A m c) m (u8s l)) (h0 : A ≠ none) :
    ∃ g rest, A = some ⟨g, 0, none⟩ ∧ base ≤ g ∧ Blk w g 5 (u8s l ++ rest).toArray ∧ l.length = m := by
  have hl : l.length = m := by have := h.1; simp at this; omega
  rcases h.2 with ⟨h1, _⟩ | ⟨g, cap, cur, h1, hb, hg, hnc, _, hsz, htk⟩
  · injection h1 with h1 _ _; exact absurd h1 h0
  · injection h1 with h1 _ _
    refine ⟨g, cur.toList.drop m, h1, hb, ?_, hl⟩
    unfold Blk
    rw [hg, ← htk]
    simp

/-- append([]byte{}, ..): a copy of its own -/
theorem copyU8 {ops : Array Oper} {rest : List Oper} {o : Oper} {a : Act} {w : World} {Q : Exit → Act → World → Prop} (hgd : o.guard = none) (s x : Operand)
    (ho : o.op = .call { callee := .builtin .append, args := #[s, x], argTypes := #[45, 45] })
    (w0 : World) (g0 : Nat) (hs : a.eval s = .slice (some ⟨g0, 0, none⟩) 0 0) (hg0 : g0 = w0.heap.size) (hw : w = w0.alloc (.cells #[] 5))
    (A : Option Addr) (m c : Nat) (l : List UInt8) (hx : a.eval x = .slice A m c) (hl : l.length = m) (hr : Rd w0 A l) (hbd : m ≤ 1000000000)
    (h : ∀ g c' w', w'.ownsRow w0.heap.size 5 1 (.slice (some ⟨g, 0, none⟩) m c') m (u8s l) → Fr [] w0 w' → wpList Try.prog ops Q rest (a.put o.dst (.slice (some ⟨g, 0, none⟩) m c')) w') :
    wpList Try.prog ops Q (o :: rest) a w := by
  subst hw hg0
  have hf := (Fr.refl [] w0).alloc (.cells #[] 5)
  have hown := World.ownsRow_made (base := w0.heap.size) (e := 5) (size := 1) w0 #[] 0 (Nat.le_refl _) (by decide) (by simp)
  refine appU8 hgd s x ho w0.heap.size _ 0 [] hs (by simpa [u8s] using hown) A m c l hx hl (hr.fr hf (by simp)) (by omega) (by simp) ?_
  intro A' c' w' ho' hf' hb
  rw [Nat.zero_add] at ho' hb ⊢
  rw [List.nil_append] at ho'
  obtain ⟨g, tl, rfl, hg, hblk, _⟩ := ownB_blk ho' (by rintro rfl; simp [Value.ownBlock] at hb)
  exact h g c' w' ho' (hf.trans' hf' (fun x hx => by simp [Value.ownBlock] at hx; omega))

theorem rdB_blk {w : World} {g : Nat} {l : List UInt8} {tl : List Value} {t : TypeId} (h : Blk w g t (u8s l ++ tl).toArray) : Rd w (some ⟨g, 0, none⟩) l := fun _ => ⟨g, 0, rfl, fun j x hx => by
  have hj : j < l.length := (List.getElem?_eq_some_iff.1 hx).1
  rw [h.cell, Nat.zero_add, List.getElem?_toArray, List.getElem?_append_left (by simpa using hj), u8s_get, hx]; rfl⟩

theorem ownB_at {w : World} {base g n c : Nat} {l : List UInt8} (h : w.ownsRow base 5 1 (.slice (some ⟨g, 0, none⟩) n c) n (u8s l)) :
    l.length = n ∧ base ≤ g ∧ n ≤ c ∧ c ≤ maxLen ∧ ∃ tl, Blk w g 5 (u8s l ++ tl).toArray := by
  have hl : l.length = n := by have := h.1; simp at this; omega
  rcases h.2 with ⟨h1, _⟩ | ⟨g', cap, cur, h1, hb, hg, hnc, hcm, hsz, htk⟩
  · injection h1 with h1 _ _; exact absurd h1 (by simp)
  · injection h1 with h1 _ h3
    injection h1 with h1
    injection h1 with h1 _ _
    subst h1 h3
    refine ⟨hl, hb, hnc, hcm, cur.toList.drop n, ?_⟩
    unfold Blk
    rw [hg, ← htk]
    simp

theorem growU8 {ops : Array Oper} {rest : List Oper} {o : Oper} {a : Act} {w : World} {Q : Exit → Act → World → Prop} (hgd : o.guard = none) (s x : Operand)
    (ho : o.op = .call { callee := .builtin .append, args := #[s, x], argTypes := #[45, 45] })
    (base g n c0 : Nat) (xs : List UInt8) (hs : a.eval s = .slice (some ⟨g, 0, none⟩) n c0) (hown : w.ownsRow base 5 1 (.slice (some ⟨g, 0, none⟩) n c0) n (u8s xs))
    (A : Option Addr) (m c : Nat) (l : List UInt8) (hx : a.eval x = .slice A m c) (hl : l.length = m) (hr : Rd w A l) (hbd : n + m ≤ 1000000000) (hbase : base ≤ w.heap.size)
    (h : ∀ g' c' w', w'.ownsRow base 5 1 (.slice (some ⟨g', 0, none⟩) (n + m) c') (n + m) (u8s (xs ++ l)) → Fr [g] w w' → wpList Try.prog ops Q rest (a.put o.dst (.slice (some ⟨g', 0, none⟩) (n + m) c')) w') :
    wpList Try.prog ops Q (o :: rest) a w := by
  refine appU8 hgd s x ho base _ n xs hs hown A m c l hx hl hr hbd hbase ?_
  intro A' c' w' ho' hf' hb
  have hne : A' ≠ none := by rintro rfl; rcases hb with hb | hb <;> exact absurd hb (by simp [Value.ownBlock])
  obtain ⟨g', tl, rfl, _, _, _⟩ := ownB_blk ho' hne
  exact h g' c' w' ho' (by simpa [Value.ownBlock] using hf')

end Go.Proofs.Ytmgbimdebhhckaa
