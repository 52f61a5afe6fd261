/- codec.Cmp. -/
import Derived.Test.YtaclinojbifkbaaCodecRef
namespace Go.Proofs.Ytaclinojbifkbaa
open Go.RowKit

def cmpB : List UInt8 → List UInt8 → Int
  | [], [] => 0
  | [], _ :: _ => -1
  | _ :: _, [] => 1
  | x :: a, y :: b => if x.toNat < y.toNat then -1 else if y.toNat < x.toNat then 1 else cmpB a b

theorem cmpB_less : ∀ (a b : List UInt8), cmpB a b = if Op.bytesLess a b then -1 else if Op.bytesLess b a then 1 else 0
  | [], [] => by simp [cmpB, Op.bytesLess]
  | [], _ :: _ => by simp [cmpB, Op.bytesLess]
  | _ :: _, [] => by simp [cmpB, Op.bytesLess]
  | x :: a, y :: b => by
    have ih := cmpB_less a b
    rw [cmpB, Op.bytesLess, Op.bytesLess]
    simp only [UInt8.lt_iff_toNat_lt, Bool.or_eq_true, Bool.and_eq_true, decide_eq_true_eq, beq_iff_eq]
    by_cases h1 : x.toNat < y.toNat
    · simp [h1]
    · by_cases h2 : y.toNat < x.toNat
      · have h3 : x ≠ y := by rintro rfl; omega
        simp [h1, h2, h3]
      · have h3 : x = y := UInt8.toNat_inj.1 (by omega)
        subst h3
        simp [ih]
theorem cmpB_neg : ∀ (a b : List UInt8), cmpB b a = -cmpB a b
  | [], [] => by simp [cmpB]
  | [], _ :: _ => by simp [cmpB]
  | _ :: _, [] => by simp [cmpB]
  | x :: a, y :: b => by
    have ih := cmpB_neg a b
    rw [cmpB, cmpB]
    by_cases h1 : x.toNat < y.toNat
    · simp [h1, show ¬ y.toNat < x.toNat by omega]
    · by_cases h2 : y.toNat < x.toNat
      · simp [h1, h2]
      · simp [h1, h2, ih]
theorem cmpB_range (a b : List UInt8) : cmpB a b = -1 ∨ cmpB a b = 0 ∨ cmpB a b = 1 := by
  rw [cmpB_less]
  split
  · exact .inl rfl
  · split
    · exact .inr (.inr rfl)
    · exact .inr (.inl rfl)

/-- the number that bytes are, the highest first -/
def beR : List UInt8 → Nat
  | [] => 0
  | x :: l => x.toNat * 256 ^ l.length + beR l
theorem beR_lt : ∀ l : List UInt8, beR l < 256 ^ l.length
  | [] => by simp [beR]
  | x :: l => by
    have := beR_lt l
    have hx := x.toNat_lt
    rw [beR, List.length_cons, Nat.pow_succ]
    have : x.toNat * 256 ^ l.length ≤ 255 * 256 ^ l.length := Nat.mul_le_mul_right _ (by omega)
    omega
theorem cmpB_beR : ∀ (a b : List UInt8), a.length = b.length → (cmpB a b < 0 ↔ beR a < beR b)
  | [], [], _ => by simp [cmpB, beR]
  | [], _ :: _, h => by simp at h
  | _ :: _, [], h => by simp at h
  | x :: a, y :: b, h => by
    have hl : a.length = b.length := by simpa using h
    have ih := cmpB_beR a b hl
    have ha := beR_lt a
    have hb := beR_lt b
    rw [cmpB, beR, beR, ← hl]
    rw [← hl] at hb
    by_cases h1 : x.toNat < y.toNat
    · have := Nat.mul_le_mul_right (256 ^ a.length) (show x.toNat + 1 ≤ y.toNat by omega)
      rw [Nat.add_mul] at this
      simp only [h1, if_true]
      omega
    · by_cases h2 : y.toNat < x.toNat
      · have := Nat.mul_le_mul_right (256 ^ a.length) (show y.toNat + 1 ≤ x.toNat by omega)
        rw [Nat.add_mul] at this
        simp only [h1, h2, if_true, if_false]
        omega
      · have h3 : x.toNat = y.toNat := by omega
        rw [if_neg h1, if_neg h2, ih, h3]
        omega
theorem beR_numB (n : Int) (h1 : -9223372036854775808 ≤ n) (h2 : n ≤ 9223372036854775807) : beR (numB n) = nu n := by
  have hu : nu n < 18446744073709551616 := by unfold nu; omega
  unfold numB
  simp only [show List.range 8 = [0, 1, 2, 3, 4, 5, 6, 7] from rfl, List.map_cons, List.map_nil, beR, UInt8.toNat_ofNat', List.length_cons, List.length_nil]
  simp
  omega
theorem cmp_nums (n m : Int) (h1 : -9223372036854775808 ≤ n) (h2 : n ≤ 9223372036854775807) (h3 : -9223372036854775808 ≤ m) (h4 : m ≤ 9223372036854775807) :
    (cmpB (numB n) (numB m) < 0 ↔ n < m) ∧ (0 < cmpB (numB n) (numB m) ↔ m < n) := by
  have e1 := cmpB_beR (numB n) (numB m) (by rw [numB_length, numB_length])
  have e2 := cmpB_beR (numB m) (numB n) (by rw [numB_length, numB_length])
  rw [cmpB_neg] at e2
  rw [beR_numB n h1 h2, beR_numB m h3 h4] at e1 e2
  unfold nu at e1 e2
  omega

theorem sizeU8 : (Try.prog.info? 5).map (·.size) = some 1 := by kernel_rfl

theorem cmp_calls (w : World) (A B : Option Addr) (ca cb : Nat) (la lb : List UInt8) (hA : Rd w A la) (hB : Rd w B lb) (ha : la.length ≤ 1000000000) (hb : lb.length ≤ 1000000000) :
    Calls Try.prog 13 #[.slice A la.length ca, .slice B lb.length cb] w (Quiet (.int .i64 (cmpB la lb)) w) := by
  have HA := Lib.hid hA; have HB := Lib.hid hB
  clear hA hB
  go_enter Try.func13, Try.ntmps13
  go_upto_region 1 with fail
  go_cut [10, 11] (fun v u wc => v = .int .i64 ((min la.length lb.length : Nat) : Int) ∧ u = .int .i64 0 ∧ w = wc)
  case first =>
    by_cases hle : la.length ≤ lb.length
    · have h1 : (la.length : Int) ≤ lb.length := by omega
      go_wp2_with fail
      go_meet
      exact ⟨by rw [Nat.min_eq_left hle], rfl, rfl⟩
    · have h1 : (lb.length : Int) < la.length := by omega
      go_wp2_with fail
      go_meet
      exact ⟨by rw [Nat.min_eq_right (by omega)], rfl, rfl⟩
  case rest =>
    obtain ⟨rfl, rfl, rfl⟩ := hcut
    obtain ⟨m, hm⟩ : ∃ m, min la.length lb.length = m := ⟨_, rfl⟩
    have hma : m ≤ la.length := by omega
    have hmb : m ≤ lb.length := by omega
    rw [hm]
    have HM := Lib.hid hm
    clear hm
    go_wp2_with fail
    go_loopg [11] m (fun g u wr => ∃ k : Nat, k ≤ m ∧ g = m - k ∧ u = .int .i64 k ∧ cmpB (la.drop k) (lb.drop k) = cmpB la lb ∧ Fr [] w wr)
    case atStart => exact ⟨0, by omega, by omega, rfl, rfl, Fr.refl _ _⟩
    case round =>
      obtain ⟨k, hk, rfl, rfl, hc, hf⟩ := hrel
      have HC := Lib.hid hc; have HF := Lib.hid hf
      clear hc hf
      by_cases hlt : k < m
      · obtain ⟨x, hx⟩ : ∃ x, la[k]? = some x := ⟨la[k], by simp⟩
        obtain ⟨y, hy⟩ : ∃ y, lb[k]? = some y := ⟨lb[k], by simp⟩
        obtain ⟨b1, o1, hA, hcA⟩ := HA.out.fr HF.out (by simp) (by omega)
        obtain ⟨b2, o2, hB, hcB⟩ := HB.out.fr HF.out (by simp) (by omega)
        have c1 := hcA k x hx
        have c2 := hcB k y hy
        have i1 := fun w => run_index_slice' (P := Try.prog) w Try.underlying22 sizeU8 (n := la.length) (c := ca) hA (show k < la.length by omega)
        have i2 := fun w => run_index_slice' (P := Try.prog) w Try.underlying22 sizeU8 (n := lb.length) (c := cb) hB (show k < lb.length by omega)
        simp only [Nat.mul_one] at i1 i2
        have ea : la.drop k = x :: la.drop (k + 1) := by
          obtain ⟨h1, h2⟩ := List.getElem?_eq_some_iff.1 hx
          rw [List.drop_eq_getElem_cons h1, h2]
        have eb : lb.drop k = y :: lb.drop (k + 1) := by
          obtain ⟨h1, h2⟩ := List.getElem?_eq_some_iff.1 hy
          rw [List.drop_eq_getElem_cons h1, h2]
        have hc := HC.out
        rw [ea, eb, cmpB] at hc
        have HC2 := Lib.hid hc
        have k1 : (k : Int) < (la.length : Int) := by omega
        have k2 : (k : Int) < (lb.length : Int) := by omega
        clear hx hy hcA hcB hA hB hc ea eb
        by_cases h1 : x.toNat < y.toNat
        · have h1' : (x.toNat : Int) < (y.toNat : Int) := by omega
          have hc := HC2.out
          rw [if_pos h1] at hc
          have HC3 := Lib.hid hc
          clear h1 hc
          go_wp2_with fail
          go_quiet (fail)
          go_wp2_with fail
          go_ret
          exact ⟨by rw [← HC3.out]; rfl, by first | exact HF.out.drewN _ | exact (HF.out.drewN _).drewN _⟩
        · have h1' : (y.toNat : Int) ≤ (x.toNat : Int) := by omega
          have hc := HC2.out
          rw [if_neg h1] at hc
          by_cases h2 : y.toNat < x.toNat
          · have h2' : (y.toNat : Int) < (x.toNat : Int) := by omega
            rw [if_pos h2] at hc
            have HC3 := Lib.hid hc
            clear h1 h2 hc
            go_wp2_with fail
            go_quiet (fail)
            go_wp2_with fail
            go_quiet (fail)
            go_wp2_with fail
            go_ret
            exact ⟨by rw [← HC3.out]; rfl, by first | exact HF.out.drewN _ | exact (HF.out.drewN _).drewN _⟩
          · have h2' : (x.toNat : Int) ≤ (y.toNat : Int) := by omega
            rw [if_neg h2] at hc
            have HC3 := Lib.hid hc
            clear h1 h2 hc
            go_wp2_with fail
            go_quiet (fail)
            go_wp2_with fail
            go_quiet (fail)
            go_wp2_with fail
            go_roundg (m - (k + 1))
            case measure => omega
            case rel => exact ⟨k + 1, by omega, rfl, by go_num, HC3.out, by first | exact HF.out.drewN _ | exact (HF.out.drewN _).drewN _⟩
      · obtain rfl : k = m := by omega
        by_cases h1 : la.length < lb.length
        · have h1' : (la.length : Int) < (lb.length : Int) := by omega
          have e : cmpB la lb = -1 := by
            rw [← HC.out, List.drop_of_length_le (show la.length ≤ k by have := HM.out; omega)]
            cases h : lb.drop k with
            | nil => have := congrArg List.length h; simp at this; omega
            | cons => rfl
          have HE := Lib.hid e
          clear e
          go_wp2_with fail
          go_ret
          exact ⟨by rw [HE.out]; rfl, HF.out⟩
        · by_cases h2 : lb.length < la.length
          · have h1' : (lb.length : Int) ≤ (la.length : Int) := by omega
            have h2' : (lb.length : Int) < (la.length : Int) := by omega
            have e : cmpB la lb = 1 := by
              rw [← HC.out, List.drop_of_length_le (show lb.length ≤ k by have := HM.out; omega)]
              cases h : la.drop k with
              | nil => have := congrArg List.length h; simp at this; omega
              | cons => rfl
            have HE := Lib.hid e
            clear e
            go_wp2_with fail
            go_ret
            exact ⟨by rw [HE.out]; rfl, HF.out⟩
          · have h1' : (lb.length : Int) ≤ (la.length : Int) := by omega
            have h2' : (la.length : Int) ≤ (lb.length : Int) := by omega
            have e : cmpB la lb = 0 := by
              rw [← HC.out, List.drop_of_length_le (show la.length ≤ k by have := HM.out; omega), List.drop_of_length_le (show lb.length ≤ k by have := HM.out; omega)]
              rfl
            have HE := Lib.hid e
            clear e
            go_wp2_with fail
            go_ret
            exact ⟨by rw [HE.out]; rfl, HF.out⟩
end Go.Proofs.Ytaclinojbifkbaa
