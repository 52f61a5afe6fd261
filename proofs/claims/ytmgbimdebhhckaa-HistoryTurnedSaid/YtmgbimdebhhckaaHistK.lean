/- History: Path, Growth. -/
import Derived.Test.YtmgbimdebhhckaaHistJ
namespace Go.Proofs.Ytmgbimdebhhckaa
open Go.RowKit
set_option linter.unusedVariables false

/-- digests in a row of the call's own, and an error's number -/
def OwnD2 (w : World) (r : List (List UInt8) × Int) (e : Ending) (w' : World) : Prop :=
  (∀ p ∈ r.1, p.length = 32) ∧ ∃ v, e = .returned (.tuple #[v, .int .i64 r.2]) ∧ w'.ownsRow w.heap.size 25 32 v r.1.length (r.1.flatMap u8s) ∧ Fr [] w w'
/-- Path's results -/
def pathR (l : List (List UInt8)) (i : Int) : List (List UInt8) × Int := if i < 0 ∨ (l.length : Int) ≤ i then ([], 1) else (pathF l i.toNat, 0)
/-- Growth's results -/
def growR (l : List (List UInt8)) (m : Int) : List (List UInt8) × Int := if m < 0 ∨ (l.length : Int) < m then ([], 1) else if m = 0 then ([], 0) else (restF l m.toNat true, 0)
set_option maxHeartbeats 1000000 in
theorem Path_calls (w : World) (A : Option Addr) (n c : Nat) (i : Int) (ds : List (List UInt8)) (hn : ds.length = n) (hc : n ≤ c) (hb : n ≤ 100000) (hD : DgIn w A ds) :
    Calls Try.prog 8 #[.slice A n c, .int .i64 i] w (OwnD2 w (pathR ds i)) := by
  have HE := Lib.hid (show pathR ds i = if i < 0 ∨ (n : Int) ≤ i then ([], 1) else (pathF ds i.toNat, 0) by rw [← hn]; rfl)
  by_cases h0 : i < 0
  · have hd : decide (i < 0) = true := decide_eq_true h0
    go_enter Try.func8, Try.ntmps8
    go_wp2_with fail
    go_ret2
    rw [HE.out, if_pos (Or.inl h0)]
    exact ⟨by simp, _, rfl, World.ownsRow_nil _ _ _ _, Fr.refl _ _⟩
  by_cases h1 : (n : Int) ≤ i
  · have hd : decide (i < 0) = false := decide_eq_false h0
    go_enter Try.func8, Try.ntmps8
    go_wp2_with fail
    go_ret2
    rw [HE.out, if_pos (Or.inr h1)]
    exact ⟨by simp, _, rfl, World.ownsRow_nil _ _ _ _, Fr.refl _ _⟩
  · have hd : decide (i < 0) = false := decide_eq_false h0
    obtain ⟨k, rfl⟩ := Int.eq_ofNat_of_zero_le (by omega : 0 ≤ i)
    have HP := Lib.hid (path_calls n w A n c k ds (Nat.le_refl _) hn hc (by omega) hb (by omega) hD)
    rw [if_neg (by omega)] at HE
    go_enter Try.func8, Try.ntmps8
    go_wp2_with (go_at_call 24; (with_reducible refine HP.out.mono ?_); rintro e w2 ⟨h5, v, rfl, ho, hf⟩)
    go_ret2
    rw [HE.out]
    exact ⟨by simpa using h5, v, rfl, by simpa using ho, hf⟩
set_option maxHeartbeats 1000000 in
theorem Growth_calls (w : World) (A : Option Addr) (n c : Nat) (m : Int) (ds : List (List UInt8)) (hn : ds.length = n) (hc : n ≤ c) (hb : n ≤ 99999) (hD : DgIn w A ds) :
    Calls Try.prog 9 #[.slice A n c, .int .i64 m] w (OwnD2 w (growR ds m)) := by
  have HE := Lib.hid (show growR ds m = if m < 0 ∨ (n : Int) < m then ([], 1) else if m = 0 then ([], 0) else (restF ds m.toNat true, 0) by rw [← hn]; rfl)
  by_cases h0 : m < 0
  · have hd : decide (m < 0) = true := decide_eq_true h0
    go_enter Try.func9, Try.ntmps9
    go_wp2_with fail
    go_ret2
    rw [HE.out, if_pos (Or.inl h0)]
    exact ⟨by simp, _, rfl, World.ownsRow_nil _ _ _ _, Fr.refl _ _⟩
  by_cases h1 : (n : Int) < m
  · have hd : decide (m < 0) = false := decide_eq_false h0
    go_enter Try.func9, Try.ntmps9
    go_wp2_with fail
    go_ret2
    rw [HE.out, if_pos (Or.inr h1)]
    exact ⟨by simp, _, rfl, World.ownsRow_nil _ _ _ _, Fr.refl _ _⟩
  by_cases h2 : m = 0
  · subst h2
    go_enter Try.func9, Try.ntmps9
    go_wp2_with fail
    go_ret2
    rw [HE.out, if_neg (by omega), if_pos trivial]
    exact ⟨by simp, _, rfl, World.ownsRow_nil _ _ _ _, Fr.refl _ _⟩
  · have hd : decide (m < 0) = false := decide_eq_false h0
    have hz : (m == 0) = false := by rw [beq_eq_false_iff_ne]; exact h2
    obtain ⟨k, rfl⟩ := Int.eq_ofNat_of_zero_le (by omega : 0 ≤ m)
    have HP := Lib.hid (rest_calls n w A n c k true ds (Nat.le_refl _) hn hc (by omega) (by omega) hb hD)
    rw [if_neg (by omega), if_neg (by omega)] at HE
    go_enter Try.func9, Try.ntmps9
    go_wp2_with (go_at_call 25; (with_reducible refine HP.out.mono ?_); rintro e w2 ⟨h5, v, rfl, ho, hf⟩)
    go_ret2
    rw [HE.out]
    exact ⟨by simpa using h5, v, rfl, by simpa using ho, hf⟩
end Go.Proofs.Ytmgbimdebhhckaa
