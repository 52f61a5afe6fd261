/- SHA-256: a number's eight bytes; the state. -/
import Derived.Test.YtmgbimdebhhckaaApp
import Derived.Test.YtmgbimdebhhckaaShaD
namespace Go.Proofs.Ytmgbimdebhhckaa
open Go.RowKit
set_option linter.unusedVariables false

/-- a number's eight bytes, the highest first -/
def eightB (n : Nat) : List UInt8 := (List.range 8).map fun k => UInt8.ofNat (n / 256 ^ (7 - k))
theorem eightB_length (n : Nat) : (eightB n).length = 8 := by simp [eightB]
theorem eight_byte (u k : Nat) (hk : k < 8) : (u : Int) / 2 ^ (56 - 8 * k) % 256 = ((UInt8.ofNat (u / 256 ^ (7 - k))).toNat : Int) := by
  have e : (2 : Nat) ^ (56 - 8 * k) = 256 ^ (7 - k) := by
    rw [show (256 : Nat) = 2 ^ 8 from rfl, ← Nat.pow_mul]; congr 1; omega
  rw [UInt8.toNat_ofNat']
  have e2 : ((2 : Int) ^ (56 - 8 * k)) = ((256 ^ (7 - k) : Nat) : Int) := by rw [← e]; simp
  rw [e2]
  omega
theorem eightB_step (n k : Nat) (hk : k < 8) : (eightB n).take k ++ [UInt8.ofNat (n / 256 ^ (7 - k))] = (eightB n).take (k + 1) := by
  rw [List.take_succ_eq_append_getElem (by simp [eightB]; omega)]
  congr 2
  simp [eightB]

set_option maxHeartbeats 1000000 in
theorem eight_calls (w : World) (n : Nat) (hn : n < 18446744073709551616) : Calls Try.prog 45 #[.int .u64 (n : Int)] w (OwnB w (eightB n)) := by
  go_enter Try.func45, Try.ntmps45
  go_wp2
  go_loopg [3, 4] 8 (fun gg v u wr => ∃ k : Nat, k ≤ 8 ∧ gg = 8 - k ∧ u = .int .i64 (56 - 8 * (k : Int)) ∧ wr.ownsRow w.heap.size 5 1 v k (u8s ((eightB n).take k)) ∧ Fr [] w wr)
  case atStart => exact ⟨0, by omega, by omega, rfl, World.ownsRow_nil _ _ _ _, Fr.refl _ _⟩
  case round =>
    obtain ⟨k, hk, rfl, rfl, ho, hf⟩ := hrel
    have HO := Lib.hid ho; have HF := Lib.hid hf
    clear ho hf
    by_cases hlt : k < 8
    · have HY := Lib.hid (eight_byte n k hlt)
      obtain ⟨y, hy⟩ : ∃ y, UInt8.ofNat (n / 256 ^ (7 - k)) = y := ⟨_, rfl⟩
      rw [hy] at HY
      have HE := Lib.hid hy
      clear hy
      have HO1 := Lib.hid (HO.out.alloc (.cells #[u8v y] 5))
      have HF1 := Lib.hid (HF.out.alloc (.cells #[u8v y] 5))
      have hb1 : k + 1 ≤ 1000000000 := by omega
      have hs1 : w.heap.size ≤ (wr.alloc (.cells #[u8v y] 5)).heap.size := HF1.out.size
      have HS1 := Lib.hid hs1
      clear hs1
      go_wp2_with (at_builtin; rw [HY.out]; refine appU8 rfl (.tmp 9) (.tmp 14) rfl w.heap.size _ k _ rfl HO1.out _ 1 1 [y] rfl rfl (rd_one wr y _) hb1 HS1.out ?_; intro A1 c1 w1 ho1 hf1 hb1; have HO2 := Lib.hid ho1; have HF2 := Lib.hid hf1; clear ho1 hf1 hb1)
      go_roundg (8 - (k + 1))
      case measure => omega
      case rel =>
        have e := eightB_step n k hlt
        rw [HE.out] at e
        refine ⟨k + 1, by omega, rfl, by congr 1; omega, by rw [← e]; exact HO2.out, HF1.out.trans' HF2.out (fun x hx => ?_)⟩
        simp only [Option.mem_toList] at hx
        exact .inr (HO.out.lt x hx).1
    · obtain rfl : k = 8 := by omega
      go_wp2
      go_ret
      refine OwnB.mk' (n := 8) ?_ HF.out
      have := HO.out
      rwa [List.take_of_length_le (by simp [eightB])] at this
end Go.Proofs.Ytmgbimdebhhckaa
