/- The walk of HistoryProofs. -/
import Derived.Test.YtmgbimdebhhckaaHistProofsB
namespace Go.Proofs.Ytmgbimdebhhckaa
open Go.RowKit
set_option linter.unusedVariables false
set_option maxHeartbeats 1000000 in
set_option maxRecDepth 100000 in
theorem proofs_walk (w : World) (A : Option Addr) (n c : Nat) (l : List (List UInt8)) (hn : l.length = n) (hc : n ≤ c) (hD : DgIn w A l) (hmax : n ≤ maxLen) (i m : Int) :
    Calls Try.prog 3 #[.slice A n c, .int .i64 i, .int .i64 m] w (AliveR w) := by
  by_cases h40 : n ≤ 40
  · by_cases hi : i < 0
    · exact proofs_neg w A n c l hn hc hD h40 i hi m
    · by_cases hi2 : (n : Int) ≤ i
      · exact proofs_big w A n c l hn hc hD h40 i (by omega) hi2 m
      · obtain ⟨i, rfl⟩ := Int.eq_ofNat_of_zero_le (show 0 ≤ i by omega)
        exact proofs_good w A n c l hn hc hD h40 i (by omega) m
  · unfold maxLen at hmax
    have hI : (40 : Int) < (n : Int) := by omega
    have HAL := Lib.hid (alive18_calls w)
    clear hn hc hD hmax h40
    go_enter Try.func3, Try.ntmps3
    go_wp2_with (go_at_call 6; (with_reducible refine HAL.out.mono ?_); rintro e w1 ⟨rfl, f1⟩; have F1 := Lib.hid f1; clear f1)
    go_ret
    exact ⟨rfl, F1.out⟩
end Go.Proofs.Ytmgbimdebhhckaa
