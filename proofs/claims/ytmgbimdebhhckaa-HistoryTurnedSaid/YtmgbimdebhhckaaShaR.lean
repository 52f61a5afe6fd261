/- SHA-256: the first statement of a block's turn, whatever its order. -/
import Derived.Test.YtmgbimdebhhckaaShaC
import Derived.Test.YtmgbimdebhhckaaRegInv
namespace Go.Proofs.Ytmgbimdebhhckaa
open Go.RowKit

def upd (L : Nat → Bool) (i : Nat) : Nat → Bool := fun j => if j = i then true else L j
theorem getD_upd {l : Array Bool} {i : Nat} (hi : i < l.size) : (fun j => (l.setIfInBounds i true).getD j false) = upd (fun j => l.getD j false) i := by
  funext j
  unfold upd
  by_cases h : j = i
  · subst h
    simp [hi]
  · rw [if_neg h]
    simp [Ne.symm h]
@[simp] theorem upd_same (L : Nat → Bool) (i : Nat) : upd L i i = true := by simp [upd]
theorem upd_ne (L : Nat → Bool) {i j : Nat} (h : j ≠ i) : upd L i j = L j := by simp [upd, h]

structure RI (A : Option Addr) (c : Nat) (b : List UInt8) (hl : List UInt32) (w0 : World) (L : Nat → Bool) (x5 x6 x7 t14 t15 t16 t17 : Value) (w' : World) : Prop where
  fr : Fr [] w0 w'
  r0 : L 0 = true → t14 = .slice A 64 c
  r1 : L 1 = true → t15 = .agg (u32s (st b 64)).toArray
  r2 : L 2 = true → t16 = .agg (u32s Kw).toArray
  r3 : L 3 = true → t17 = .agg (u32s hl).toArray
  r4 : L 4 = true → ∃ q, x5 = .pointer (some ⟨q, 0, none⟩) ∧ w0.heap.size ≤ q ∧ Blk w' q 77 (if L 7 then u32s (st b 64) else z64).toArray
  r5 : L 5 = true → ∃ q, x6 = .pointer (some ⟨q, 0, none⟩) ∧ w0.heap.size ≤ q ∧ Blk w' q 77 (if L 8 then u32s Kw else z64).toArray
  r6 : L 6 = true → ∃ q, x7 = .pointer (some ⟨q, 0, none⟩) ∧ w0.heap.size ≤ q ∧ Blk w' q 69 (if L 9 then u32s hl else z8).toArray
  ne : L 4 = true → L 5 = true → x5 ≠ x6
  c7 : L 7 = true → L 4 = true
  c8 : L 8 = true → L 5 = true
  c9 : L 9 = true → L 6 = true

section
variable {A : Option Addr} {c : Nat} {b : List UInt8} {hl : List UInt32} {w0 w' w2 : World} {L : Nat → Bool} {x5 x6 x7 t14 t15 t16 t17 : Value}
theorem RI.start (a : World) (h : ∀ j, L j = false) (hf : Fr [] w0 a) : RI A c b hl w0 L x5 x6 x7 t14 t15 t16 t17 a :=
  ⟨hf, by simp [h], by simp [h], by simp [h], by simp [h], by simp [h], by simp [h], by simp [h], by simp [h], by simp [h], by simp [h], by simp [h]⟩
theorem RI.fr' (h : RI A c b hl w0 L x5 x6 x7 t14 t15 t16 t17 w') (hf : Fr [] w' w2) : RI A c b hl w0 L x5 x6 x7 t14 t15 t16 t17 w2 :=
  { h with
    fr := h.fr.trans hf
    r4 := fun hL => let ⟨q, e, hq, hb⟩ := h.r4 hL; ⟨q, e, hq, hb.fr hf (by simp)⟩
    r5 := fun hL => let ⟨q, e, hq, hb⟩ := h.r5 hL; ⟨q, e, hq, hb.fr hf (by simp)⟩
    r6 := fun hL => let ⟨q, e, hq, hb⟩ := h.r6 hL; ⟨q, e, hq, hb.fr hf (by simp)⟩ }
theorem RI.v0 (h : RI A c b hl w0 L x5 x6 x7 t14 t15 t16 t17 w') : RI A c b hl w0 (upd L 0) x5 x6 x7 (.slice A 64 c) t15 t16 t17 w' :=
  ⟨h.fr, fun _ => rfl, h.r1, h.r2, h.r3, h.r4, h.r5, h.r6, h.ne, h.c7, h.c8, h.c9⟩
theorem RI.v1 (h : RI A c b hl w0 L x5 x6 x7 t14 t15 t16 t17 w') : RI A c b hl w0 (upd L 1) x5 x6 x7 t14 (.agg (u32s (st b 64)).toArray) t16 t17 w' :=
  ⟨h.fr, h.r0, fun _ => rfl, h.r2, h.r3, h.r4, h.r5, h.r6, h.ne, h.c7, h.c8, h.c9⟩
theorem RI.v2 (h : RI A c b hl w0 L x5 x6 x7 t14 t15 t16 t17 w') : RI A c b hl w0 (upd L 2) x5 x6 x7 t14 t15 (.agg (u32s Kw).toArray) t17 w' :=
  ⟨h.fr, h.r0, h.r1, fun _ => rfl, h.r3, h.r4, h.r5, h.r6, h.ne, h.c7, h.c8, h.c9⟩
theorem RI.v3 (h : RI A c b hl w0 L x5 x6 x7 t14 t15 t16 t17 w') : RI A c b hl w0 (upd L 3) x5 x6 x7 t14 t15 t16 (.agg (u32s hl).toArray) w' :=
  ⟨h.fr, h.r0, h.r1, h.r2, fun _ => rfl, h.r4, h.r5, h.r6, h.ne, h.c7, h.c8, h.c9⟩
theorem RI.a4 (h : RI A c b hl w0 L x5 x6 x7 t14 t15 t16 t17 w') (h4 : L 4 = false) : RI A c b hl w0 (upd L 4) (.pointer (some ⟨w'.heap.size, 0, none⟩)) x6 x7 t14 t15 t16 t17 (w'.alloc (.cells z64.toArray 77)) := by
  have h7 : L 7 = false := by
    cases h7 : L 7 with
    | false => rfl
    | true => have := h.c7 h7; rw [h4] at this; cases this
  have k := h.fr' ((Fr.refl [] w').alloc (.cells z64.toArray 77))
  exact ⟨k.fr, k.r0, k.r1, k.r2, k.r3, fun _ => ⟨_, rfl, h.fr.size, by rw [upd_ne L (by decide : 7 ≠ 4), h7]; exact Blk.new w' _ _⟩, k.r5, k.r6,
    fun _ h5 he => by
      obtain ⟨q, e, _, hb⟩ := h.r5 h5
      rw [e] at he
      injection he with he; injection he with he; injection he with he
      have := hb.lt; omega, fun h => absurd (show L 7 = true from h) (by rw [h7]; decide), k.c8, k.c9⟩
theorem RI.a5 (h : RI A c b hl w0 L x5 x6 x7 t14 t15 t16 t17 w') (h5 : L 5 = false) : RI A c b hl w0 (upd L 5) x5 (.pointer (some ⟨w'.heap.size, 0, none⟩)) x7 t14 t15 t16 t17 (w'.alloc (.cells z64.toArray 77)) := by
  have h8 : L 8 = false := by
    cases h8 : L 8 with
    | false => rfl
    | true => have := h.c8 h8; rw [h5] at this; cases this
  have k := h.fr' ((Fr.refl [] w').alloc (.cells z64.toArray 77))
  exact ⟨k.fr, k.r0, k.r1, k.r2, k.r3, k.r4, fun _ => ⟨_, rfl, h.fr.size, by rw [upd_ne L (by decide : 8 ≠ 5), h8]; exact Blk.new w' _ _⟩, k.r6,
    fun h4 _ he => by
      obtain ⟨q, e, _, hb⟩ := h.r4 h4
      rw [e] at he
      injection he with he; injection he with he; injection he with he
      have := hb.lt; omega, k.c7, fun h => absurd (show L 8 = true from h) (by rw [h8]; decide), k.c9⟩
theorem RI.a6 (h : RI A c b hl w0 L x5 x6 x7 t14 t15 t16 t17 w') (h6 : L 6 = false) : RI A c b hl w0 (upd L 6) x5 x6 (.pointer (some ⟨w'.heap.size, 0, none⟩)) t14 t15 t16 t17 (w'.alloc (.cells z8.toArray 69)) := by
  have h9 : L 9 = false := by
    cases h9 : L 9 with
    | false => rfl
    | true => have := h.c9 h9; rw [h6] at this; cases this
  have k := h.fr' ((Fr.refl [] w').alloc (.cells z8.toArray 69))
  exact ⟨k.fr, k.r0, k.r1, k.r2, k.r3, k.r4, k.r5, fun _ => ⟨_, rfl, h.fr.size, by rw [upd_ne L (by decide : 9 ≠ 6), h9]; exact Blk.new w' _ _⟩, k.ne, k.c7, k.c8,
    fun h => absurd (show L 9 = true from h) (by rw [h9]; decide)⟩
theorem RI.s7 (h : RI A c b hl w0 L x5 x6 x7 t14 t15 t16 t17 w') (h4 : L 4 = true) (q : Nat) (hx : x5 = .pointer (some ⟨q, 0, none⟩)) : RI A c b hl w0 (upd L 7) x5 x6 x7 t14 t15 t16 t17 (w'.setRow q (u32s (st b 64)).toArray) := by
  obtain ⟨q4, e4, hq4, hb4⟩ := h.r4 h4
  have : q4 = q := by rw [e4] at hx; injection hx with hx; injection hx with hx; injection hx
  subst this
  refine ⟨h.fr.setRow (.inr hq4) _, h.r0, h.r1, h.r2, h.r3, fun _ => ⟨q4, e4, hq4, by simp only [upd_same, if_true]; exact hb4.setRow_ _⟩, fun h5 => ?_, fun h6 => ?_, h.ne, fun _ => h4, h.c8, h.c9⟩
  · obtain ⟨q5, e5, hq5, hb5⟩ := h.r5 h5
    refine ⟨q5, e5, hq5, hb5.setRow_far (fun he => ?_) _⟩
    exact h.ne h4 h5 (by rw [e4, e5, he])
  · obtain ⟨q6, e6, hq6, hb6⟩ := h.r6 h6
    exact ⟨q6, e6, hq6, hb6.setRow_far (hb6.ne_ hb4 (by decide)) _⟩
theorem RI.s8 (h : RI A c b hl w0 L x5 x6 x7 t14 t15 t16 t17 w') (h5 : L 5 = true) (q : Nat) (hx : x6 = .pointer (some ⟨q, 0, none⟩)) : RI A c b hl w0 (upd L 8) x5 x6 x7 t14 t15 t16 t17 (w'.setRow q (u32s Kw).toArray) := by
  obtain ⟨q5, e5, hq5, hb5⟩ := h.r5 h5
  have : q5 = q := by rw [e5] at hx; injection hx with hx; injection hx with hx; injection hx
  subst this
  refine ⟨h.fr.setRow (.inr hq5) _, h.r0, h.r1, h.r2, h.r3, fun h4 => ?_, fun _ => ⟨q5, e5, hq5, by simp only [upd_same, if_true]; exact hb5.setRow_ _⟩, fun h6 => ?_, h.ne, h.c7, fun _ => h5, h.c9⟩
  · obtain ⟨q4, e4, hq4, hb4⟩ := h.r4 h4
    refine ⟨q4, e4, hq4, hb4.setRow_far (fun he => ?_) _⟩
    exact h.ne h4 h5 (by rw [e4, e5, he])
  · obtain ⟨q6, e6, hq6, hb6⟩ := h.r6 h6
    exact ⟨q6, e6, hq6, hb6.setRow_far (hb6.ne_ hb5 (by decide)) _⟩
theorem RI.s9 (h : RI A c b hl w0 L x5 x6 x7 t14 t15 t16 t17 w') (h6 : L 6 = true) (q : Nat) (hx : x7 = .pointer (some ⟨q, 0, none⟩)) : RI A c b hl w0 (upd L 9) x5 x6 x7 t14 t15 t16 t17 (w'.setRow q (u32s hl).toArray) := by
  obtain ⟨q6, e6, hq6, hb6⟩ := h.r6 h6
  have : q6 = q := by rw [e6] at hx; injection hx with hx; injection hx with hx; injection hx
  subst this
  refine ⟨h.fr.setRow (.inr hq6) _, h.r0, h.r1, h.r2, h.r3, fun h4 => ?_, fun h5 => ?_, fun _ => ⟨q6, e6, hq6, by simp only [upd_same, if_true]; exact hb6.setRow_ _⟩, h.ne, h.c7, h.c8, fun _ => h6⟩
  · obtain ⟨q4, e4, hq4, hb4⟩ := h.r4 h4
    exact ⟨q4, e4, hq4, hb4.setRow_far (hb4.ne_ hb6 (by decide)) _⟩
  · obtain ⟨q5, e5, hq5, hb5⟩ := h.r5 h5
    exact ⟨q5, e5, hq5, hb5.setRow_far (hb5.ne_ hb6 (by decide)) _⟩
end
end Go.Proofs.Ytmgbimdebhhckaa
