/- The walk of HistoryTurned. -/
import Derived.Test.YtmgbimdebhhckaaHistTurnedA
import Derived.Test.YtmgbimdebhhckaaHistTurnedB
import Derived.Test.YtmgbimdebhhckaaHistTurnedC
namespace Go.Proofs.Ytmgbimdebhhckaa
open Go.RowKit
set_option linter.unusedVariables false

theorem turned_k (i : Int) (n : Nat) (h1 : 1 ≤ n) (h30 : n ≤ 30) : ∃ k : Nat, wrap64 ((IntKind.u64.wrap i).tmod (n : Int)) = (k : Int) ∧ k < n := by
  have h0 : 0 ≤ IntKind.u64.wrap i := by
    simp only [IntKind.wrap, IntKind.signed, IntKind.bits, Bool.false_and, Bool.false_eq_true, if_false]
    exact Int.emod_nonneg _ (by decide)
  rw [Int.tmod_eq_emod_of_nonneg h0]
  have hb := Int.emod_nonneg (IntKind.u64.wrap i) (show (n : Int) ≠ 0 by omega)
  have hl := Int.emod_lt_of_pos (IntKind.u64.wrap i) (show (0 : Int) < (n : Int) by omega)
  obtain ⟨k, hk⟩ := Int.eq_ofNat_of_zero_le hb
  exact ⟨k, by rw [hk]; unfold wrap64; omega, by omega⟩
set_option maxHeartbeats 1000000 in
set_option maxRecDepth 100000 in
theorem turned_walk (w : World) (A : Option Addr) (n c : Nat) (l : List (List UInt8)) (hn : l.length = n) (hc : n ≤ c) (hD : DgIn w A l) (hmax : n ≤ maxLen) (i m : Int) (x : List UInt8) (hx : x.length = 32) (a : Int) (ha : 0 ≤ a ∧ a ≤ 255) :
    Calls Try.prog 4 #[.slice A n c, .int .i64 i, .int .i64 m, .agg (u8s x).toArray, .int .u8 a] w (AliveR w) := by
  by_cases h : n < 1 ∨ 30 < n
  · have HAL := Lib.hid (fun w => alive18_calls w)
    have hcs : n < 1 ∨ (1 ≤ n ∧ 30 < n) := by omega
    unfold maxLen at hmax
    rcases hcs with h1 | ⟨h1, h2⟩
    · have hI : (n : Int) < 1 := by omega
      clear h h1 hn hc hD hmax hx ha
      go_enter Try.func4, Try.ntmps4
      go_wp2_with (first
        | (refine box_agg rfl 25 (.tmp 3) rfl (u8s x).toArray rfl ?_; obtain ⟨w1, hw1⟩ : ∃ W, w.alloc (.cells (u8s x).toArray 25) = W := ⟨_, rfl⟩; rw [hw1]; have F1 := Lib.hid (show Fr [] w w1 from hw1 ▸ (Fr.refl [] w).alloc _); clear hw1)
        | (go_at_call 6; (with_reducible refine (HAL.out w1).mono ?_); rintro e w2 ⟨rfl, f2⟩; have F2 := Lib.hid (F1.out.trans f2); clear f2))
      go_ret
      exact ⟨rfl, F2.out⟩
    · have hI : (1 : Int) ≤ (n : Int) ∧ (30 : Int) < (n : Int) := by omega
      clear h h1 h2 hn hc hD hmax hx ha
      go_enter Try.func4, Try.ntmps4
      go_wp2_with (first
        | (refine box_agg rfl 25 (.tmp 3) rfl (u8s x).toArray rfl ?_; obtain ⟨w1, hw1⟩ : ∃ W, w.alloc (.cells (u8s x).toArray 25) = W := ⟨_, rfl⟩; rw [hw1]; have F1 := Lib.hid (show Fr [] w w1 from hw1 ▸ (Fr.refl [] w).alloc _); clear hw1)
        | (go_at_call 6; (with_reducible refine (HAL.out w1).mono ?_); rintro e w2 ⟨rfl, f2⟩; have F2 := Lib.hid (F1.out.trans f2); clear f2))
      go_ret
      exact ⟨rfl, F2.out⟩
  · obtain ⟨k, hk, hkn⟩ := turned_k i n (by omega) (by omega)
    obtain ⟨lk, hlk⟩ : ∃ y, l[k]? = some y := ⟨l[k]'(by omega), by simp⟩
    cases hxl : (x == lk) with
    | true => exact turned_A w A n c l hn hc hD (by omega) i m x hx a ha k hk hkn lk hlk _ rfl hxl
    | false =>
      cases hin : inB (rootF l) (n : Int) (k : Int) x (pathF l k) with
      | false => exact turned_B w A n c l hn hc hD (by omega) i m x hx a ha k hk hkn lk hlk _ rfl hxl hin
      | true => exact turned_C w A n c l hn hc hD (by omega) i m x hx a ha k hk hkn lk hlk _ rfl hxl hin
end Go.Proofs.Ytmgbimdebhhckaa
