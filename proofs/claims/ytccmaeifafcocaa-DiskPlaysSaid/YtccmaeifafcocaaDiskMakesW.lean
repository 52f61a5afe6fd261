/- The walk of DiskMakes. -/
import Derived.Test.YtccmaeifafcocaaDiskE
namespace Go.Proofs.Ytccmaeifafcocaa
open Go.RowKit

theorem makes_bad (n : Int) (hn : n < 0 ∨ 4096 < n) (w : World) : Calls Try.prog 5 #[.int .i64 n] w (Quiet (.bool true) w) := by
  have heq : ∀ (w : World), (binOp .eql 23 (.pointer none) (.pointer none)).run Try.prog w = .ok (.bool true) w := fun w => by kernel_rfl
  have HA := alive_calls w
  have HA' := Lib.hid HA; clear HA
  by_cases h0 : n < 0
  · have HB := Lib.hid (fun w => new_bad w n (.inl h0))
    clear hn
    go_enter Try.func5, Try.ntmps5
    go_wp2_with (first
      | (go_at_call 7; (with_reducible refine HA'.out.mono ?_); rintro e w1 ⟨rfl, f1⟩; have F1 := Lib.hid f1; clear f1)
      | (go_at_call 8; (with_reducible refine (HB.out _).mono ?_); rintro e w2 ⟨rfl, rfl⟩))
    go_ret
    exact ⟨rfl, F1.out⟩
  · have h1 : 4096 < n := by omega
    have HB := Lib.hid (fun w => new_bad w n (.inr h1))
    clear hn
    go_enter Try.func5, Try.ntmps5
    go_wp2_with (first
      | (go_at_call 7; (with_reducible refine HA'.out.mono ?_); rintro e w1 ⟨rfl, f1⟩; have F1 := Lib.hid f1; clear f1)
      | (go_at_call 8; (with_reducible refine (HB.out _).mono ?_); rintro e w2 ⟨rfl, rfl⟩))
    go_ret
    exact ⟨rfl, F1.out⟩

/-- All of a disk's bytes, in a row whose address is told. -/
def AllPost (w : World) (l : List UInt8) (e : Ending) (w' : World) : Prop :=
  ∃ A c, e = .returned (.slice A l.length c) ∧ l.length ≤ c ∧ Rd w' A l ∧ (∀ b off, A = some ⟨b, off, none⟩ → w.heap.size ≤ b ∧ b < w'.heap.size) ∧ Fr [] w w'
theorem all_rd (w : World) (p g n cap : Nat) (s : DS) (h : IsDisk w p g n cap s) :
    Calls Try.prog 11 #[.pointer (some ⟨p, 0, none⟩)] w (AllPost w s.bs) := by
  refine (all_calls w p g n cap s h).mono ?_
  rintro e w1 ⟨A, c, rfl, ho, hf⟩
  obtain ⟨A', c', e', _, hc, hrd, hb, _⟩ := own_rd ho
  cases e'
  exact ⟨A, c, rfl, hc, hrd, fun b off hA => ⟨(hb b off hA).1, (hb b off hA).2.2.2⟩, hf⟩

def AllSome (w : World) (m : Nat) (l : List UInt8) (e : Ending) (w' : World) : Prop :=
  ∃ b c, e = .returned (.slice (some ⟨b, 0, none⟩) m c) ∧ m ≤ c ∧ (∀ j x, l[j]? = some x → w'.cell? ⟨b, j, none⟩ = some (u8v x)) ∧ w.heap.size ≤ b ∧ b < w'.heap.size ∧ Fr [] w w'
theorem all_some (w : World) (p g n cap : Nat) (s : DS) (h : IsDisk w p g n cap s) (m : Nat) (hm : s.bs.length = m) (h0 : 0 < m) :
    Calls Try.prog 11 #[.pointer (some ⟨p, 0, none⟩)] w (AllSome w m s.bs) := by
  subst hm
  refine (all_calls w p g n cap s h).mono ?_
  rintro e w1 ⟨A, c, rfl, ho, hf⟩
  obtain ⟨A', c', e', _, hc, hrd, hb, _⟩ := own_rd ho
  cases e'
  obtain ⟨b, off, rfl, hcell⟩ := hrd h0
  obtain ⟨h1, rfl, _, h2⟩ := hb b off rfl
  exact ⟨b, c, rfl, hc, fun j x hx => by have := hcell j x hx; rw [Nat.zero_add] at this; exact this, h1, h2, hf⟩

theorem makes_zero (w : World) : Calls Try.prog 5 #[.int .i64 0] w (Quiet (.bool true) w) := by
  have HA := Lib.hid (alive_calls w)
  have hl : (DS.new 0).bs.length = 0 := by simp [DS.new]
  have hd : (DS.new 0).dead = false := rfl
  have hw : (DS.new 0).writes = 0 := rfl
  have HN : Hid (∀ w, Calls Try.prog 8 #[.int .i64 0] w (NewDisk w 0)) := Lib.hid (fun w => new_good w 0 (by omega))
  go_enter Try.func5, Try.ntmps5
  go_wp2_with (first
      | (go_at_call 7; (with_reducible refine HA.out.mono ?_); rintro e w1 ⟨rfl, f1⟩; have F1 := Lib.hid f1; clear f1)
      | (go_at_call 8; (with_reducible refine (HN.out _).mono ?_); rintro e w2 ⟨rfl, d2, f2⟩; have D2 := Lib.hid d2; have F2 := Lib.hid f2; clear d2 f2)
      | (go_at_call 11; (with_reducible refine (all_rd _ _ _ _ _ _ D2.out).mono ?_); rintro e w3 ⟨A3, c3, rfl, hc3, hrd3, hb3, f3⟩; have R3 := Lib.hid hrd3; have F3 := Lib.hid f3; have D3 := Lib.hid (D2.out.fr f3 (by simp) (by simp)); clear hrd3 hb3 f3))
  refine wp_loop_rounds 1 ?_
  rw [rounds_succ]
  go_wp2_with (first
      | (go_at_call 16; (with_reducible refine (len_calls _ _ _ _ _ _ D3.out).mono ?_); rintro e w4 ⟨rfl, rfl⟩)
      | (go_at_call 13; (with_reducible refine (dead_calls _ _ _ _ _ _ D3.out).mono ?_); rintro e w4 ⟨rfl, rfl⟩)
      | (go_at_call 14; (with_reducible refine (writes_calls _ _ _ _ _ _ D3.out).mono ?_); rintro e w4 ⟨rfl, rfl⟩))
  go_ret
  exact ⟨by simp, (F1.out.trans F2.out).trans F3.out⟩

theorem makes_good (n : Nat) (hn : n ≤ 4096) (h0 : 0 < n) (w : World) : Calls Try.prog 5 #[.int .i64 (n : Int)] w (Quiet (.bool true) w) := by
  have HA := Lib.hid (alive_calls w)
  have hl : (DS.new n).bs.length = 64 * n := by simp [DS.new]
  have hd : (DS.new n).dead = false := rfl
  have hw : (DS.new n).writes = 0 := rfl
  have HN := Lib.hid (fun w => new_good w n hn)
  go_enter Try.func5, Try.ntmps5
  go_wp2_with (first
      | (go_at_call 7; (with_reducible refine HA.out.mono ?_); rintro e w1 ⟨rfl, f1⟩; have F1 := Lib.hid f1; clear f1)
      | (go_at_call 8; (with_reducible refine (HN.out _).mono ?_); rintro e w2 ⟨rfl, d2, f2⟩; have D2 := Lib.hid d2; have F2 := Lib.hid f2; clear d2 f2)
      | (go_at_call 11; (with_reducible refine (all_some _ _ _ _ _ _ D2.out (64 * n) hl (by omega)).mono ?_); rintro e w3 ⟨b3, c3, rfl, hc3, hcell3, _, _, f3⟩; have R3 := Lib.hid hcell3; have F3 := Lib.hid f3; have D3 := Lib.hid (D2.out.fr f3 (by simp) (by simp)); clear hcell3 f3))
  have hz : ∀ k, k < 64 * n → w3.cell? ⟨b3, k, none⟩ = some (.int .u8 0) := fun k hk => R3.out k 0 (by simp [DS.new, hk])
  have HZ := Lib.hid hz; clear hz
  go_loopg [6] (64 * n) (fun g i wr => ∃ k : Nat, k ≤ 64 * n ∧ g = 64 * n - k ∧ i = .int .i64 k ∧ w3 = wr)
  case atStart => exact ⟨0, by omega, by omega, rfl, rfl⟩
  case round =>
    obtain ⟨k, hk, rfl, rfl, rfl⟩ := hrel
    by_cases hlt : k < 64 * n
    · have hc := HZ.out k hlt
      go_wp2
      go_roundg (64 * n - (k + 1))
      case measure => omega
      case rel => exact ⟨k + 1, by omega, rfl, by go_num, rfl⟩
    · obtain rfl : k = 64 * n := by omega
      go_wp2_with (first
        | (go_at_call 16; (with_reducible refine (len_calls _ _ _ _ _ _ D3.out).mono ?_); rintro e w4 ⟨rfl, rfl⟩)
        | (go_at_call 13; (with_reducible refine (dead_calls _ _ _ _ _ _ D3.out).mono ?_); rintro e w4 ⟨rfl, rfl⟩)
        | (go_at_call 14; (with_reducible refine (writes_calls _ _ _ _ _ _ D3.out).mono ?_); rintro e w4 ⟨rfl, rfl⟩))
      go_ret
      exact ⟨by simp, (F1.out.trans F2.out).trans F3.out⟩
end Go.Proofs.Ytccmaeifafcocaa
