/- codec.Reader: contracts, where what is read is there. -/
import Derived.Test.YtaclinojbifkbaaWrite
import Derived.Laws.ResultCell
namespace Go.Proofs.Ytaclinojbifkbaa
open Go.RowKit

/-- At block p lies a reader; what it has not read lies in block g. -/
structure IsR (w : World) (p g : Nat) (l : List UInt8) (e : Int) : Prop where
  lies : ∃ A c, Blk w p 65 #[.slice A l.length c, .int .i64 e] ∧ Rd w A l ∧ l.length ≤ c ∧ ∀ ad, A = some ad → ad.block = g ∧ ad = ⟨ad.block, ad.off, none⟩
  ne_ : p ≠ g

theorem IsR.fr {w w' : World} {p g : Nat} {l : List UInt8} {e : Int} {S : List Nat} (h : IsR w p g l e) (hf : Fr S w w') (hp : p ∉ S) (hg : g ∉ S) : IsR w' p g l e := by
  obtain ⟨⟨A, c, hb, hr, hc, ha⟩, hne⟩ := h
  exact ⟨⟨A, c, hb.fr hf hp, hr.fr hf (fun b off hA => by have := (ha _ hA).1; simp at this; rw [this]; exact hg), hc, ha⟩, hne⟩
theorem IsR.lt {w : World} {p g : Nat} {l : List UInt8} {e : Int} (h : IsR w p g l e) : p < w.heap.size := by
  obtain ⟨⟨_, _, hb, _⟩, _⟩ := h
  exact hb.lt

theorem Rd.drop {w : World} {A : Option Addr} {l : List UInt8} (h : Rd w A l) (n c : Nat) (hn : n ≤ l.length) (hc : l.length ≤ c) : Rd w (if c = n then A else A.map (·.add n)) (l.drop n) := by
  intro hl
  simp at hl
  obtain ⟨b, off, rfl, hcell⟩ := h (by omega)
  rw [if_neg (by omega)]
  refine ⟨b, off + n, by simp [addr_add0], fun j x hx => ?_⟩
  rw [List.getElem?_drop] at hx
  have := hcell (n + j) x hx
  rwa [Nat.add_assoc]

def TakePost (w : World) (p g : Nat) (l : List UInt8) (n : Nat) (e : Ending) (w' : World) : Prop :=
  ∃ A c, e = .returned (.tuple #[.slice A n c, .bool true]) ∧ n ≤ c ∧ Rd w' A (l.take n) ∧ (∀ ad, A = some ad → ad.block = g ∧ ad = ⟨ad.block, ad.off, none⟩) ∧ IsR w' p g (l.drop n) 0 ∧ Fr [p] w w'

theorem take_ok (w : World) (p g : Nat) (l : List UInt8) (h : IsR w p g l 0) (n : Nat) (hn : n ≤ l.length) (hl : l.length ≤ 1000000000) :
    Calls Try.prog 37 #[.pointer (some ⟨p, 0, none⟩), .int .i64 (n : Int)] w (TakePost w p g l n) := by
  obtain ⟨⟨A, c, hb, hr, hc, ha⟩, hne⟩ := h
  have h0 : w.cell? ⟨p, 0, none⟩ = some (.slice A l.length c) := by rw [hb.cell]; rfl
  have h1 : w.cell? ⟨p, 1, none⟩ = some (.int .i64 0) := by rw [hb.cell]; rfl
  have hz := hb.frozen
  have hnc : n ≤ c := by omega
  have HB := Lib.hid hb; have HR := Lib.hid hr; have HA := Lib.hid ha; have HNE := Lib.hid hne
  clear hb hr ha hne
  by_cases hcn : c = n
  · subst hcn
    have hlen : l.length = c := by omega
    have HLEN := Lib.hid hlen
    rw [hlen] at h0
    clear hlen
    go_enter Try.func37, Try.ntmps37
    go_wp2
    go_ret2
    have hb2 := HB.out.set_ 0 (.slice A 0 0)
    have hf : Fr [p] w (w.setCell ⟨p, 0, none⟩ (.slice A 0 0)) := (Fr.refl _ _).setCell (.inl (by simp)) _
    have hS : ∀ b off, A = some ⟨b, off, none⟩ → b ∉ [p] := fun b off hA => by have := (HA.out _ hA).1; simp at this; have := HNE.out; simp; omega
    refine ⟨A, c, rfl, Nat.le_refl _, (HR.out.take c).fr hf hS, HA.out, ⟨⟨A, 0, ?_, ?_, ?_, HA.out⟩, HNE.out⟩, hf⟩
    · have e : (l.drop c).length = 0 := by have := HLEN.out; simp; omega
      rw [e]; simpa using hb2
    · intro hl; have := HLEN.out; simp at hl; omega
    · have := HLEN.out; simp; omega
  · go_enter Try.func37, Try.ntmps37
    go_wp2
    go_ret2
    have hb2 := HB.out.set_ 0 (.slice (Option.map (fun x => x.add n) A) (l.length - n) (c - n))
    have hf : Fr [p] w (w.setCell ⟨p, 0, none⟩ (.slice (Option.map (fun x => x.add n) A) (l.length - n) (c - n))) := (Fr.refl _ _).setCell (.inl (by simp)) _
    have hS : ∀ b off, A = some ⟨b, off, none⟩ → b ∉ [p] := fun b off hA => by have := (HA.out _ hA).1; simp at this; have := HNE.out; simp; omega
    have hd := HR.out.drop n c hn hc
    rw [if_neg hcn] at hd
    refine ⟨A, c, rfl, hnc, (HR.out.take n).fr hf hS, HA.out, ⟨⟨_, c - n, ?_, hd.fr hf (fun b off hA => ?_), ?_, fun ad hA => ?_⟩, HNE.out⟩, hf⟩
    · rw [List.length_drop]; simpa using hb2
    · cases A with
      | none => simp at hA
      | some ad =>
        have h1 := HA.out ad rfl
        rw [h1.2, Option.map_some, addr_add0] at hA
        simp at hA
        have := h1.1; have := HNE.out; simp; omega
    · simp; omega
    · cases A with
      | none => simp at hA
      | some ad' =>
        have h1 := HA.out ad' rfl
        rw [h1.2, Option.map_some, addr_add0] at hA
        simp at hA
        subst hA
        exact ⟨h1.1, rfl⟩

def FailPost (w : World) (p g : Nat) (l : List UInt8) (x : Int) (e : Ending) (w' : World) : Prop := e = .returned (.tuple #[]) ∧ IsR w' p g l x ∧ Fr [p] w w'
theorem fail_first (w : World) (p g : Nat) (l : List UInt8) (h : IsR w p g l 0) (x : Int) :
    Calls Try.prog 38 #[.pointer (some ⟨p, 0, none⟩), .int .i64 x] w (FailPost w p g l x) := by
  obtain ⟨⟨A, c, hb, hr, hc, ha⟩, hne⟩ := h
  have h1 : w.cell? ⟨p, 1, none⟩ = some (.int .i64 0) := by rw [hb.cell]; rfl
  have hz := hb.frozen
  have HB := Lib.hid hb; have HR := Lib.hid hr; have HA := Lib.hid ha; have HNE := Lib.hid hne
  clear hb hr ha hne
  go_enter Try.func38, Try.ntmps38
  go_wp2
  go_end0
  have hb2 := HB.out.set_ 1 (.int .i64 x)
  have hf : Fr [p] w (w.setCell ⟨p, 1, none⟩ (.int .i64 x)) := (Fr.refl _ _).setCell (.inl (by simp)) _
  exact ⟨rfl, ⟨⟨A, c, by simpa using hb2, HR.out.fr hf (fun b off hA => by have := (HA.out _ hA).1; have := HNE.out; simp at *; omega), hc, HA.out⟩, HNE.out⟩, hf⟩

theorem rerr_calls (w : World) (p g : Nat) (l : List UInt8) (er : Int) (h : IsR w p g l er) :
    Calls Try.prog 34 #[.pointer (some ⟨p, 0, none⟩)] w fun e w' => e = .returned (.int .i64 er) ∧ w = w' := by
  obtain ⟨⟨A, c, hb, _⟩, _⟩ := h
  have h1 : w.cell? ⟨p, 1, none⟩ = some (.int .i64 er) := by rw [hb.cell]; rfl
  clear hb
  go_enter Try.func34, Try.ntmps34
  go_wp2
  go_ret
  exact ⟨rfl, rfl⟩

theorem left_calls (w : World) (p g : Nat) (l : List UInt8) (er : Int) (h : IsR w p g l er) :
    Calls Try.prog 32 #[.pointer (some ⟨p, 0, none⟩)] w fun e w' => e = .returned (.int .i64 (l.length : Int)) ∧ w = w' := by
  obtain ⟨⟨A, c, hb, _⟩, _⟩ := h
  have h1 : w.cell? ⟨p, 0, none⟩ = some (.slice A l.length c) := by rw [hb.cell]; rfl
  clear hb
  go_enter Try.func32, Try.ntmps32
  go_wp2
  go_ret
  exact ⟨rfl, rfl⟩

theorem end_empty (w : World) (p g : Nat) (er : Int) (h : IsR w p g [] er) :
    Calls Try.prog 31 #[.pointer (some ⟨p, 0, none⟩)] w fun e w' => e = .returned (.int .i64 er) ∧ w = w' := by
  obtain ⟨⟨A, c, hb, _⟩, _⟩ := h
  have h0 : w.cell? ⟨p, 0, none⟩ = some (.slice A 0 c) := by rw [hb.cell]; rfl
  have h1 : w.cell? ⟨p, 1, none⟩ = some (.int .i64 er) := by rw [hb.cell]; rfl
  clear hb
  go_enter Try.func31, Try.ntmps31
  go_wp2
  go_ret
  exact ⟨rfl, rfl⟩

def NewR (w : World) (l : List UInt8) (e : Ending) (w' : World) : Prop :=
  ∃ p g, e = .returned (.pointer (some ⟨p, 0, none⟩)) ∧ IsR w' p g l 0 ∧ w.heap.size ≤ p ∧ w.heap.size ≤ g ∧ Fr [] w w'

theorem newr_calls (w : World) (A : Option Addr) (m c : Nat) (l : List UInt8) (hm : l.length = m) (hA : Rd w A l) (hn : m ≤ 1000000000) :
    Calls Try.prog 23 #[.slice A m c] w (NewR w l) := by
  subst hm
  have HC := Lib.hid (clone_n w A l.length c l rfl hA hn)
  clear hA
  go_enter Try.func23, Try.ntmps23
  go_wp2_with fail
  refine HC.out.mono ?_
  rintro e w1 ⟨A1, c1, rfl, ho, hf⟩
  have HO := Lib.hid ho; have HF := Lib.hid hf; clear ho hf
  go_wp2_with fail
  go_ret
  obtain ⟨A', c', e', _, hc, hrd, hb, hsp⟩ := own_rd HO.out
  cases e'
  have hb2 := Blk.new w1 65 #[.slice A1 l.length c1, .int .i64 0]
  cases A1 with
  | none =>
    exact ⟨w1.heap.size, w1.heap.size + 1, rfl, ⟨⟨none, c1, hb2, hrd.fr ((Fr.refl [] w1).alloc _) (by simp), hc, by simp⟩, by omega⟩, HF.out.size, Nat.le_succ_of_le HF.out.size, HF.out.alloc _⟩
  | some ad =>
    have e1 := hsp ad rfl
    have e2 := hb ad.block 0 (by rw [← e1])
    refine ⟨w1.heap.size, ad.block, rfl, ⟨⟨some ad, c1, hb2, hrd.fr ((Fr.refl [] w1).alloc _) (by simp), hc, fun ad' h => ?_⟩, ?_⟩, HF.out.size, e2.1, HF.out.alloc _⟩
    · cases h; exact ⟨rfl, by rw [e1]⟩
    · have := e2.2.2.2; omega
end Go.Proofs.Ytaclinojbifkbaa
