/- What is written piece by piece: the state of ShaPieces' loop. -/
import Derived.Test.YtgjcnmlfoagnpaaShaClashW
import Derived.Test.YtgjcnmlfoagnpaaArgsT
namespace Go.Proofs.Ytgjcnmlfoagnpaa
open Go.RowKit
set_option linter.unusedVariables false

theorem StIs.fr0 {S : List Nat} {w w' : World} {p : Nat} {l : List UInt8} {A : Option Addr} (h : StIs w p l A) (hf : Fr S w w') (hp : p ∉ S) (hA : 0 < (restB l).length → ∀ b off, A = some ⟨b, off, none⟩ → b ∉ S) : StIs w' p l A := by
  obtain ⟨⟨V, c, hb, hc, hV⟩, hr, hl⟩ := h
  exact ⟨⟨V, c, hb.fr hf hp, hc, hV⟩, hr.fr0 hf hA, hl⟩
theorem StIs.own_ne {w : World} {p base n : Nat} {l : List UInt8} {A : Option Addr} {v : Value} {xs : List Value} (h : StIs w p l A) (ho : w.ownsRow base 5 1 v n xs) : v.ownBlock ≠ some p := by
  obtain ⟨⟨V, c, hb, _, _⟩, _, _⟩ := h
  exact own_blk_ne ho hb (by decide)
def V0 : V8 := ⟨0, 0, 0, 0, 0, 0, 0, 0⟩
theorem zero_st (w : World) : StIs (w.alloc (.cells (stCells V0 none 0 0 0).toArray 35)) w.heap.size [] none :=
  ⟨⟨V0, 0, Blk.new _ _ _, by simp, by simp⟩, by simp [Rd, restB], by simp⟩
theorem len_calls (w : World) (p : Nat) (l : List UInt8) (A : Option Addr) (h : StIs w p l A) :
    Calls Try.prog 14 #[.pointer (some ⟨p, 0, none⟩)] w fun e w' => e = .returned (.int .u64 (l.length : Int)) ∧ w = w' := by
  obtain ⟨⟨V, c, hb, _, _⟩, _, _⟩ := h
  have c9 : w.cell? ⟨p, 9, none⟩ = some (.int .u64 (l.length : Int)) := by rw [hb.cell, List.getElem?_toArray, stCells_9]
  clear hb
  go_enter Try.func14, Try.ntmps14
  go_wp2
  go_ret
  exact ⟨rfl, rfl⟩
theorem len_any (w : World) (p : Nat) (l : List UInt8) (A : Option Addr) (h : StIs w p l A) (x : Int) (hx : x = (l.length : Int)) :
    Calls Try.prog 14 #[.pointer (some ⟨p, 0, none⟩)] w (QuietS (.int .u64 x) w) :=
  (len_calls w p l A h).mono fun e w' ⟨h1, h2⟩ => ⟨by rw [h1, hx], by rw [h2]; exact Fr.refl _ _⟩
/-- the loop's state: both sums have l written, 'all' is l -/
structure PW (w wr : World) (p z : Nat) (L : List UInt8) (As Az : Option Addr) (v : Value) : Prop where
  s : StIs wr p L As
  t : StIs wr z L Az
  own : wr.ownsRow w.heap.size 5 1 v L.length (u8s L)
  ra : 0 < (restB L).length → ∀ b off, As = some ⟨b, off, none⟩ → v.ownBlock ≠ some b
  rz : 0 < (restB L).length → ∀ b off, Az = some ⟨b, off, none⟩ → v.ownBlock ≠ some b
  pz : p ≠ z
  pn : w.heap.size ≤ p
  zn : w.heap.size ≤ z
  fr : Fr [] w wr
theorem PW.frS {S : List Nat} {w wr w' : World} {p z : Nat} {L : List UInt8} {As Az : Option Addr} {v : Value} (h : PW w wr p z L As Az v) (hf : Fr S wr w') (hp : p ∉ S) (hz : z ∉ S)
    (ha : 0 < (restB L).length → ∀ b off, As = some ⟨b, off, none⟩ → b ∉ S) (hb : 0 < (restB L).length → ∀ b off, Az = some ⟨b, off, none⟩ → b ∉ S) (ho : ∀ k, v.ownBlock = some k → k ∉ S)
    (hw : Fr [] w w') : PW w w' p z L As Az v :=
  ⟨h.s.fr0 hf hp ha, h.t.fr0 hf hz hb, own_fr h.own hf ho, h.ra, h.rz, h.pz, h.pn, h.zn, hw⟩
theorem PW.fr0 {w wr w' : World} {p z : Nat} {L : List UInt8} {As Az : Option Addr} {v : Value} (h : PW w wr p z L As Az v) (hf : Fr [] wr w') : PW w w' p z L As Az v :=
  h.frS hf (by simp) (by simp) (by simp) (by simp) (by simp) (h.fr.trans hf)
theorem PW.step {w w1 w2 w3 w4 : World} {p z n' : Nat} {L x : List UInt8} {As Az As' Az' : Option Addr} {v v' : Value} (h : PW w w1 p z L As Az v)
    (hs : StIs w2 p (L ++ x) As') (ha : ∀ b off, As' = some ⟨b, off, none⟩ → w1.heap.size ≤ b) (f2 : Fr [p] w1 w2) (ht : StIs w3 z (L ++ x) Az') (hz : ∀ b off, Az' = some ⟨b, off, none⟩ → w2.heap.size ≤ b) (f3 : Fr [z] w2 w3)
    (hn : n' = (L ++ x).length) (ho : w4.ownsRow w.heap.size 5 1 v' n' (u8s (L ++ x))) (f4 : Fr v.ownBlock.toList w3 w4) (hb : v'.ownBlock = v.ownBlock ∨ v'.ownBlock = some w3.heap.size) : PW w w4 p z (L ++ x) As' Az' v' := by
  subst hn
  have hk : ∀ k, v.ownBlock = some k → w.heap.size ≤ k ∧ k < w1.heap.size := fun k hk => h.own.lt k hk
  have t2 : StIs w2 z L Az := h.t.fr0 f2 (by simp; exact fun e => h.pz e.symm) (fun hl b off hb => by have := h.s.ne h.t.rd hl hb; simpa using this)
  have s3 : StIs w3 p (L ++ x) As' := hs.fr0 f3 (by simp; exact h.pz) (fun hl b off hb => by have := t2.ne hs.rd hl hb; simpa using this)
  have hpo : v.ownBlock ≠ some p := h.s.own_ne h.own
  have hzo : v.ownBlock ≠ some z := h.t.own_ne h.own
  have s4 : StIs w4 p (L ++ x) As' := s3.fr0 f4 (by simp only [Option.mem_toList]; exact hpo) (fun hl b off hb => by
    simp only [Option.mem_toList]
    intro e
    have h1 := hk b e
    have h2 := ha b off hb
    omega)
  have t4 : StIs w4 z (L ++ x) Az' := ht.fr0 f4 (by simp only [Option.mem_toList]; exact hzo) (fun hl b off hb => by
    simp only [Option.mem_toList]
    intro e
    have h1 := hk b e
    have h2 := hz b off hb
    have h3 := f2.size
    omega)
  have fw3 : Fr [] w w3 := (h.fr.trans' f2 (fun y hy => by simp at hy; subst hy; exact .inr h.pn)).trans' f3 (fun y hy => by simp at hy; subst hy; exact .inr h.zn)
  refine ⟨s4, t4, ho, fun hl b off hbb e => ?_, fun hl b off hbb e => ?_, h.pz, h.pn, h.zn, fw3.trans' f4 (fun y hy => by simp only [Option.mem_toList] at hy; exact .inr (hk y hy).1)⟩
  · have h2 := ha b off hbb
    rcases hb with hb | hb
    · rw [hb] at e; have := hk b e; omega
    · rw [hb] at e; injection e with e
      have := s3.rd.blk_lt hl b off hbb
      omega
  · have h2 := hz b off hbb
    have h3 := f2.size
    rcases hb with hb | hb
    · rw [hb] at e; have := hk b e; omega
    · rw [hb] at e; injection e with e
      have := ht.rd.blk_lt hl b off hbb
      omega
end Go.Proofs.Ytgjcnmlfoagnpaa
