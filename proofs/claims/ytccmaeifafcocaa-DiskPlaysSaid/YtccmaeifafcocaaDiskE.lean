/- The document's example. -/
import Derived.Test.YtccmaeifafcocaaDiskD
namespace Go.Proofs.Ytccmaeifafcocaa
open Go.RowKit

def a1 : DS := { DS.new 2 with fuse := max 1 (-1), torn := (min (max (3 : Int) 0) 64).toNat }
def a2 : DS := (a1.wr 2 0 (List.replicate 64 97)).1
def a3 : DS := (a2.wr 2 1 (List.replicate 64 98)).1
def a4 : DS := { a3 with dead := false, fuse := -1 }
def aB : List UInt8 := List.replicate 3 98 ++ List.replicate 61 0

theorem a2_r : (a1.wr 2 0 (List.replicate 64 97)).2 = 0 := by decide +kernel
theorem a3_r : (a2.wr 2 1 (List.replicate 64 98)).2 = 30 := by decide +kernel
theorem a3_dead : a3.dead = true := by decide +kernel
theorem a4_rd : a4.rd 2 1 = (aB, 0) := by decide +kernel
theorem a4_w : a4.writes = 2 := by decide +kernel
theorem a1_w : a1.writes < 1000000 := by decide +kernel
theorem a2_w : a2.writes < 1000000 := by decide +kernel

theorem rd_new {w : World} {g : Nat} {l : List UInt8} {t : TypeId} (h : Blk w g t (u8s l).toArray) : Rd w (some ⟨g, 0, none⟩) l := fun _ => ⟨g, 0, rfl, fun j x hx => by rw [h.cell, Nat.zero_add]; simp [u8s, hx]⟩

/-- Write, of a slice whose length is told otherwise. -/
theorem write_n (w : World) (p g n cap : Nat) (s : DS) (h : IsDisk w p g n cap s) (i : Int) (A : Option Addr) (m c : Nat) (l : List UInt8) (hm : l.length = m)
    (hA : Rd w A l) (hAp : ∀ b off, A = some ⟨b, off, none⟩ → b ≠ p ∧ b < w.heap.size) (hcl : m ≤ c) (hw : s.writes < 1000000) :
    Calls Try.prog 9 #[.pointer (some ⟨p, 0, none⟩), .int .i64 i, .slice A m c] w (WPost p g n cap (s.wr n i l) w) := by
  subst hm
  exact write_any w p g n cap s h i A c l hA hAp hcl hw

def Quiet (v : Value) (w : World) (e : Ending) (w' : World) : Prop := e = .returned v ∧ Fr [] w w'

def ReadAlive (w : World) (e : Ending) (w' : World) : Prop :=
  ∃ g c, e = .returned (.tuple #[.slice (some ⟨g, 0, none⟩) 64 c, .int .i64 0]) ∧ 64 ≤ c ∧ w'.cell? ⟨g, 3, none⟩ = some (.int .u8 0) ∧ Rd w' (some ⟨g, 0, none⟩) [98, 98, 98] ∧ Fr [] w w'
theorem read_alive (w : World) (p g cap : Nat) (h : IsDisk w p g 2 cap a4) :
    Calls Try.prog 20 #[.pointer (some ⟨p, 0, none⟩), .int .i64 1] w (ReadAlive w) := by
  refine (read_calls w p g 2 cap a4 h 1).mono ?_
  rw [a4_rd]
  rintro e w8 ⟨A8, c8, rfl, o8, f8⟩
  obtain ⟨A, c, e8, _, hc8, hrd, hb8, _⟩ := own_rd o8
  cases e8
  obtain ⟨g8, off8, rfl, hcell⟩ := hrd (by decide)
  obtain ⟨_, rfl, _, _⟩ := hb8 g8 off8 rfl
  exact ⟨g8, c8, rfl, hc8, by have := hcell 3 0 (by decide); rw [Nat.zero_add] at this; exact this, hrd.take 3, f8⟩

set_option maxHeartbeats 1000000 in
theorem alive_calls (w : World) : Calls Try.prog 7 #[] w (Quiet (.bool true) w) := by
  have hneq : ∀ (a : Addr) (w : World), (binOp .eql 23 (.pointer (some a)) (.pointer none)).run Try.prog w = .ok (.bool false) w := fun a w => by kernel_rfl
  go_enter Try.func7, Try.ntmps7
  go_wp2_with fail
  refine (new_good w 2 (by omega)).mono ?_
  rintro e w1 ⟨rfl, d1, f1⟩
  have D1 := Lib.hid d1; have F1 := Lib.hid f1; clear d1 f1
  go_wp2_with fail
  refine (fuse_calls w1 _ _ _ _ _ D1.out 1 3 (by omega)).mono ?_
  rintro e w2 ⟨rfl, d2, f2⟩
  have D2 : Hid (IsDisk w2 _ _ _ _ a1) := Lib.hid d2; have F2 := Lib.hid f2; clear d2 f2
  go_wp2_with fail
  refine (sector_calls w2 97).mono ?_
  rintro e w3 ⟨rfl, b3, f3⟩
  have D3 := Lib.hid (D2.out.fr f3 (by simp) (by simp)); have B3 := Lib.hid b3; have F3 := Lib.hid f3; clear b3 f3
  go_wp2_with fail
  refine (write_n w3 _ _ _ _ _ D3.out 0 (some ⟨w2.heap.size, 0, none⟩) 64 64 (List.replicate 64 97) (by simp) (rd_new B3.out) ?_ (by omega) a1_w).mono ?_
  · intro b off hb; have := D2.out.lt; have := B3.out.lt; simp at hb; omega
  rintro e w4 ⟨rfl, d4, f4⟩
  have D4 : Hid (IsDisk w4 _ _ _ _ a2) := Lib.hid d4; have F4 := Lib.hid f4; clear d4 f4
  rw [a2_r]
  go_wp2_with fail
  refine (sector_calls w4 98).mono ?_
  rintro e w5 ⟨rfl, b5, f5⟩
  have D5 := Lib.hid (D4.out.fr f5 (by simp) (by simp)); have B5 := Lib.hid b5; have F5 := Lib.hid f5; clear b5 f5
  go_wp2_with fail
  refine (write_n w5 _ _ _ _ _ D5.out 1 (some ⟨w4.heap.size, 0, none⟩) 64 64 (List.replicate 64 98) (by simp) (rd_new B5.out) ?_ (by omega) a2_w).mono ?_
  · intro b off hb; have := D4.out.lt; have := B5.out.lt; simp at hb; omega
  rintro e w6 ⟨rfl, d6, f6⟩
  have D6 : Hid (IsDisk w6 _ _ _ _ a3) := Lib.hid d6; have F6 := Lib.hid f6; clear d6 f6
  rw [a3_r]
  go_wp2_with fail
  refine (dead_calls w6 _ _ _ _ _ D6.out).mono ?_
  rintro e w7 ⟨rfl, rfl⟩
  rw [a3_dead]
  go_wp2_with fail
  refine (wake_calls w6 _ _ _ _ _ D6.out).mono ?_
  rintro e w7 ⟨rfl, d7, f7⟩
  have D7 : Hid (IsDisk w7 _ _ _ _ a4) := Lib.hid d7; have F7 := Lib.hid f7; clear d7 f7
  go_wp2_with fail
  refine (read_alive w7 _ _ _ D7.out).mono ?_
  rintro e w8 ⟨g8, c8, rfl, hc8, h3, hrd, f8⟩
  have D8 := Lib.hid (D7.out.fr f8 (by simp) (by simp))
  have hcv : (convert 28 9 (.slice (some ⟨g8, 0, none⟩) 3 c8)).run Try.prog w8 = .ok (.string (str [98, 98, 98])) w8 :=
    run_conv_str (l := [98, 98, 98]) Try.underlying28 Try.underlying5 Try.underlying9 hrd c8
  have hc0 : c8 ≠ 0 := by omega
  have hc3 : 3 ≤ c8 := by omega
  have F := Lib.hid (show Fr [] w w8 from ((((((F1.out.trans' F2.out (by simp)).trans' F3.out (by simp)).trans' F4.out (by simp)).trans' F5.out (by simp)).trans' F6.out (by simp)).trans' F7.out (by simp)).trans' f8 (by simp))
  clear hrd f8
  have hst := str_toList
  go_wp2_with (go_at_call 14; (with_reducible refine (writes_calls w8 _ _ _ _ _ D8.out).mono ?_); rintro e w9 ⟨rfl, rfl⟩; rw [a4_w])
  go_ret
  exact ⟨by simp, F.out⟩
end Go.Proofs.Ytccmaeifafcocaa
