/- The walk of ShaSums. -/
import Derived.Test.YtgjcnmlfoagnpaaShaJ
import Derived.Test.YtgjcnmlfoagnpaaDig2
import Derived.Test.YtgjcnmlfoagnpaaRefB
namespace Go.Proofs.Ytgjcnmlfoagnpaa
open Go.RowKit

set_option maxHeartbeats 2000000 in
theorem sums_walk (w : World) (A : Option Addr) (c : Nat) (l : List UInt8) (hA : Rd w A l) (hl : l.length ≤ maxLen) :
    Calls Try.prog 3 #[.slice A l.length c] w (QuietS (.bool true) w) := by
  unfold maxLen at hl
  have HAL := Lib.hid (alive_calls w)
  have HA := Lib.hid hA
  obtain ⟨n, hn⟩ : ∃ n, l.length = n := ⟨_, rfl⟩
  rw [hn] at hl ⊢
  have HN := Lib.hid hn
  clear hA hn
  by_cases h : 1000 < n
  · have hI : (1000 : Int) < (n : Int) := by omega
    go_enter Try.func3, Try.ntmps3
    go_wp2_with (go_at_call 8; (with_reducible refine HAL.out.mono ?_); rintro e w1 ⟨rfl, f1⟩; have F1 := Lib.hid f1; clear f1)
    go_ret
    exact ⟨rfl, F1.out⟩
  · have hI : (n : Int) ≤ 1000 := by omega
    have hnb : n ≤ 100000000 := by omega
    have hgd := dig_guard'
    have heq := fun w' : World => eq_dig w' (shaB l) (shaB l) (shaB_length l) (shaB_length l)
    simp only [beq_self_eq_true] at heq
    clear h hl
    go_enter Try.func3, Try.ntmps3
    go_wp2_with (first
      | (go_at_call 8; (with_reducible refine HAL.out.mono ?_); rintro e w1 ⟨rfl, f1⟩; have F1 := Lib.hid f1; have HS := Lib.hid (sum_calls w1 A n c l HN.out (HA.out.fr f1 (by simp)) hnb); clear f1)
      | (go_at_call 9; (with_reducible refine HS.out.mono ?_); rintro e w2 ⟨rfl, f2⟩; have F2 := Lib.hid (F1.out.trans f2); have HR := Lib.hid (rsum_calls w2 A n c l HN.out (HA.out.fr (F1.out.trans f2) (by simp)) hnb); clear f2)
      | (go_at_call 10; (with_reducible refine HR.out.mono ?_); rintro e w3 ⟨rfl, f3⟩; have F3 := Lib.hid (F2.out.trans f3); clear f3))
    go_ret
    exact ⟨rfl, F3.out⟩
end Go.Proofs.Ytgjcnmlfoagnpaa
