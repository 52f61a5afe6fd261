/- The disk's functions: contracts. -/
import Derived.Test.YtccmaeifafcocaaDiskA
namespace Go.Proofs.Ytccmaeifafcocaa
open Go.RowKit

/-- what a write does -/
def DS.wr (s : DS) (n : Nat) (i : Int) (b : List UInt8) : DS × Int :=
  if s.dead then (s, 30) else if i < 0 ∨ (n : Int) ≤ i then (s, 9) else s.write i.toNat b

theorem write_any (w : World) (p g n cap : Nat) (s : DS) (h : IsDisk w p g n cap s) (i : Int) (A : Option Addr) (c : Nat) (l : List UInt8)
    (hA : Rd w A l) (hAp : ∀ b off, A = some ⟨b, off, none⟩ → b ≠ p ∧ b < w.heap.size) (hcl : l.length ≤ c) (hw : s.writes < 1000000) :
    Calls Try.prog 9 #[.pointer (some ⟨p, 0, none⟩), .int .i64 i, .slice A l.length c] w (WPost p g n cap (s.wr n i l) w) := by
  have h0 : w.cell? ⟨p, 0, none⟩ = some (.slice (some ⟨g, 0, none⟩) n cap) := by rw [h.head.cell]; rfl
  have h1 : w.cell? ⟨p, 1, none⟩ = some (.bool s.dead) := by rw [h.head.cell]; rfl
  have few := h.few
  have c0 := fun o1 o2 => cell_alloc2 h0 o1 o2
  have hF := ((Fr.refl [p, g] w).alloc (.cells #[.pointer (some ⟨p, 0, none⟩)] 23)).alloc (.cells #[.slice A l.length c] 28)
  have hF0 := ((Fr.refl [] w).alloc (.cells #[.pointer (some ⟨p, 0, none⟩)] 23)).alloc (.cells #[.slice A l.length c] 28)
  have HD := Lib.hid (h.fr hF0 (by simp) (by simp))
  have HF := Lib.hid hF
  clear hF
  unfold DS.wr
  cases hd : s.dead with
  | true =>
    rw [hd] at h1
    have c1 := fun o1 o2 => cell_alloc2 h1 o1 o2
    clear h hd hF0
    go_enter Try.func9, Try.ntmps9
    go_wp2
    go_ret
    exact ⟨rfl, HD.out, HF.out⟩
  | false =>
    rw [hd] at h1
    have c1 := fun o1 o2 => cell_alloc2 h1 o1 o2
    rw [if_neg (by simp)]
    by_cases hi : i < 0 ∨ (n : Int) ≤ i
    · rw [if_pos hi]
      by_cases hi0 : i < 0
      · clear h hd hi hF0
        go_enter Try.func9, Try.ntmps9
        go_wp2
        go_ret
        exact ⟨rfl, HD.out, HF.out⟩
      · have hin : (n : Int) ≤ i := by omega
        clear h hd hi hF0
        go_enter Try.func9, Try.ntmps9
        go_wp2
        go_ret
        exact ⟨rfl, HD.out, HF.out⟩
    · rw [if_neg hi]
      obtain ⟨k, rfl⟩ := Int.eq_ofNat_of_zero_le (show 0 ≤ i by omega)
      have hk : k < n := by omega
      have hlt := h.lt
      have hpre : W1Pre ((w.alloc (.cells #[.pointer (some ⟨p, 0, none⟩)] 23)).alloc (.cells #[.slice A l.length c] 28)) p g n cap k s (w.heap.size + 1) w.heap.size A c l :=
        { disk := HD.out, lt := hk, hq := by simp,
          hr := by simp
          hA := hA.fr hF0 (by simp), hAp := fun b off hb => (hAp b off hb).1, hqp := by omega, hrp := by omega, hrg := by omega, hcl := hcl, hw := hw }
      have HC := Lib.hid (write1_any hpre)
      clear h hd hi hpre hF0
      go_enter Try.func9, Try.ntmps9
      go_wp2_with (first | (go_at_call 25; (with_reducible refine HC.out.mono ?_); rintro e w' ⟨rfl, hI, hf⟩) | go_in)
      go_ret
      exact ⟨by simp, by simpa using hI, HF.out.trans hf⟩

theorem dead_calls (w : World) (p g n cap : Nat) (s : DS) (h : IsDisk w p g n cap s) :
    Calls Try.prog 13 #[.pointer (some ⟨p, 0, none⟩)] w fun e w' => e = .returned (.bool s.dead) ∧ w = w' := by
  have h1 : w.cell? ⟨p, 1, none⟩ = some (.bool s.dead) := by rw [h.head.cell]; rfl
  clear h
  go_enter Try.func13, Try.ntmps13
  go_wp2
  go_ret
  exact ⟨rfl, rfl⟩

theorem writes_calls (w : World) (p g n cap : Nat) (s : DS) (h : IsDisk w p g n cap s) :
    Calls Try.prog 14 #[.pointer (some ⟨p, 0, none⟩)] w fun e w' => e = .returned (.int .i64 (s.writes : Int)) ∧ w = w' := by
  have h1 : w.cell? ⟨p, 4, none⟩ = some (.int .i64 (s.writes : Int)) := by rw [h.head.cell]; rfl
  clear h
  go_enter Try.func14, Try.ntmps14
  go_wp2
  go_ret
  exact ⟨rfl, rfl⟩

theorem len_calls (w : World) (p g n cap : Nat) (s : DS) (h : IsDisk w p g n cap s) :
    Calls Try.prog 16 #[.pointer (some ⟨p, 0, none⟩)] w fun e w' => e = .returned (.int .i64 (n : Int)) ∧ w = w' := by
  have h1 : w.cell? ⟨p, 0, none⟩ = some (.slice (some ⟨g, 0, none⟩) n cap) := by rw [h.head.cell]; rfl
  clear h
  go_enter Try.func16, Try.ntmps16
  go_wp2
  go_ret
  exact ⟨rfl, rfl⟩

def DPost (p g n cap : Nat) (v : Value) (s' : DS) (w : World) (e : Ending) (w' : World) : Prop :=
  e = .returned v ∧ IsDisk w' p g n cap s' ∧ Fr [p, g] w w'

theorem fuse_close {w : World} {p g n cap : Nat} {s : DS} (h : IsDisk w p g n cap s) {k t k' t' : Int} (hk : k ≤ 9223372036854775807) (h1 : k' = max k (-1)) (h2 : t' = min (max t 0) 64) :
    DPost p g n cap (.tuple #[]) { s with fuse := max k (-1), torn := (min (max t 0) 64).toNat } w (.returned (.tuple #[])) ((w.setCell ⟨p, 2, none⟩ (.int .i64 k')).setCell ⟨p, 3, none⟩ (.int .i64 t')) := by
  subst h1; subst h2
  have hb := (h.head.set_ 2 (.int .i64 (max k (-1)))).set_ 3 (.int .i64 (min (max t 0) 64))
  have hf := ((Fr.refl [p, g] w).setCell (p := ⟨p, 2, none⟩) (.inl (by simp)) (.int .i64 (max k (-1)))).setCell (p := ⟨p, 3, none⟩) (.inl (by simp)) (.int .i64 (min (max t 0) 64))
  obtain ⟨rest, hr⟩ := h.rows
  have e : (((min (max t 0) 64).toNat : Nat) : Int) = min (max t 0) 64 := by omega
  refine ⟨rfl, ⟨by simpa [e] using hb, ⟨rest, (hr.far (p := ⟨p, 2, none⟩) h.ne _).far (p := ⟨p, 3, none⟩) h.ne _⟩, h.len, h.cap, h.few, by simp; omega, by simp; omega⟩, hf⟩

theorem fuse_calls (w : World) (p g n cap : Nat) (s : DS) (h : IsDisk w p g n cap s) (k t : Int) (hk : k ≤ 9223372036854775807) :
    Calls Try.prog 12 #[.pointer (some ⟨p, 0, none⟩), .int .i64 k, .int .i64 t] w
      (DPost p g n cap (.tuple #[]) { s with fuse := max k (-1), torn := (min (max t 0) 64).toNat } w) := by
  have h2 : w.cell? ⟨p, 2, none⟩ = some (.int .i64 s.fuse) := by rw [h.head.cell]; rfl
  have h3 : w.cell? ⟨p, 3, none⟩ = some (.int .i64 (s.torn : Int)) := by rw [h.head.cell]; rfl
  have hz : ∀ j, w.frozen? ⟨p, j, none⟩ = false := h.head.frozen
  have H := Lib.hid h
  clear h
  by_cases hk0 : k < -1
  · by_cases ht0 : t < 0
    · go_enter Try.func12, Try.ntmps12
      go_wp2
      go_end0
      exact fuse_close H.out (by omega) (by omega) (by omega)
    · by_cases ht1 : 64 < t
      all_goals
        go_enter Try.func12, Try.ntmps12
        go_wp2
        go_end0
        exact fuse_close H.out (by omega) (by omega) (by omega)
  · by_cases ht0 : t < 0
    · go_enter Try.func12, Try.ntmps12
      go_wp2
      go_end0
      exact fuse_close H.out (by omega) (by omega) (by omega)
    · by_cases ht1 : 64 < t
      all_goals
        go_enter Try.func12, Try.ntmps12
        go_wp2
        go_end0
        exact fuse_close H.out (by omega) (by omega) (by omega)

theorem wake_calls (w : World) (p g n cap : Nat) (s : DS) (h : IsDisk w p g n cap s) :
    Calls Try.prog 18 #[.pointer (some ⟨p, 0, none⟩)] w
      (DPost p g n cap (.tuple #[]) { s with dead := false, fuse := -1 } w) := by
  have h2 : w.cell? ⟨p, 2, none⟩ = some (.int .i64 s.fuse) := by rw [h.head.cell]; rfl
  have h3 : w.cell? ⟨p, 1, none⟩ = some (.bool s.dead) := by rw [h.head.cell]; rfl
  have hz : ∀ j, w.frozen? ⟨p, j, none⟩ = false := h.head.frozen
  have H := Lib.hid h
  clear h
  go_enter Try.func18, Try.ntmps18
  go_wp2
  go_end0
  have h := H.out
  have hb := (h.head.set_ 1 (.bool false)).set_ 2 (.int .i64 (-1))
  have hf := ((Fr.refl [p, g] w).setCell (p := ⟨p, 1, none⟩) (.inl (by simp)) (.bool false)).setCell (p := ⟨p, 2, none⟩) (.inl (by simp)) (.int .i64 (-1))
  obtain ⟨rest, hr⟩ := h.rows
  exact ⟨rfl, ⟨by simpa using hb, ⟨rest, (hr.far (p := ⟨p, 1, none⟩) h.ne _).far (p := ⟨p, 2, none⟩) h.ne _⟩, h.len, h.cap, h.few, by simp, h.torn⟩, hf⟩
end Go.Proofs.Ytccmaeifafcocaa
