/- The walk of CodecOrder. -/
import Derived.Test.YtaclinojbifkbaaCodecCmp
namespace Go.Proofs.Ytaclinojbifkbaa
open Go.RowKit

theorem cmp_n (w : World) (A B : Option Addr) (ca cb na nb : Nat) (la lb : List UInt8) (h1 : la.length = na) (h2 : lb.length = nb) (hA : Rd w A la) (hB : Rd w B lb) (ha : na ≤ 1000000000) (hb : nb ≤ 1000000000) :
    Calls Try.prog 13 #[.slice A na ca, .slice B nb cb] w (Quiet (.int .i64 (cmpB la lb)) w) := by
  subst h1 h2
  exact cmp_calls w A B ca cb la lb hA hB ha hb

theorem cmpB_zero : ∀ (a b : List UInt8), cmpB a b = 0 → a = b
  | [], [], _ => rfl
  | [], _ :: _, h => by simp [cmpB] at h
  | _ :: _, [], h => by simp [cmpB] at h
  | x :: a, y :: b, h => by
    rw [cmpB] at h
    by_cases h1 : x.toNat < y.toNat
    · simp [h1] at h
    · by_cases h2 : y.toNat < x.toNat
      · simp [h1, h2] at h
      · rw [if_neg h1, if_neg h2] at h
        rw [cmpB_zero a b h, UInt8.toNat_inj.1 (show x.toNat = y.toNat by omega)]
theorem cmpB_self : ∀ a : List UInt8, cmpB a a = 0
  | [] => rfl
  | x :: a => by rw [cmpB]; simp [cmpB_self a]
theorem cmp3 (a b : List UInt8) : (Op.bytesLess a b = true ∧ (a == b) = false ∧ cmpB a b = -1 ∧ cmpB b a = 1) ∨ (Op.bytesLess a b = false ∧ (a == b) = false ∧ cmpB a b = 1 ∧ cmpB b a = -1) ∨
    (Op.bytesLess a b = false ∧ (a == b) = true ∧ cmpB a b = 0 ∧ cmpB b a = 0) := by
  have h1 := cmpB_less a b
  have h2 := cmpB_less b a
  have h3 := cmpB_neg a b
  have h4 := cmpB_zero a b
  have h5 : cmpB a b ≠ 0 → (a == b) = false := fun h => by
    rw [beq_eq_false_iff_ne]; rintro rfl; exact h (cmpB_self a)
  cases e1 : Op.bytesLess a b with
  | true =>
    rw [e1, if_pos rfl] at h1
    exact .inl ⟨rfl, h5 (by omega), h1, by omega⟩
  | false =>
    rw [e1] at h1
    cases e2 : Op.bytesLess b a with
    | true =>
      rw [e2] at h1
      have h1 : cmpB a b = 1 := h1
      exact .inr (.inl ⟨rfl, h5 (by omega), h1, by omega⟩)
    | false =>
      rw [e2] at h1
      have h1 : cmpB a b = 0 := h1
      exact .inr (.inr ⟨rfl, beq_iff_eq.2 (h4 h1), h1, by omega⟩)

/-- how the ends of the way of two numbers stand -/
theorem num3 (n m : Int) (h1 : -9223372036854775808 ≤ n) (h2 : n ≤ 9223372036854775807) (h3 : -9223372036854775808 ≤ m) (h4 : m ≤ 9223372036854775807) :
    decide (cmpB (numB n) (numB m) < 0) = decide (n < m) ∧ decide (0 < cmpB (numB n) (numB m)) = decide (m < n) := by
  have := cmp_nums n m h1 h2 h3 h4
  constructor <;> rw [decide_eq_decide] <;> omega

set_option maxHeartbeats 1000000 in
theorem order_walk (w : World) (A B : Option Addr) (ca cb : Nat) (la lb : List UInt8) (n m : Int) (hn1 : -9223372036854775808 ≤ n) (hn2 : n ≤ 9223372036854775807) (hm1 : -9223372036854775808 ≤ m) (hm2 : m ≤ 9223372036854775807)
    (hA : Rd w A la) (hB : Rd w B lb) (hAl : la.length ≤ 300) (hBl : lb.length ≤ 300) :
    Calls Try.prog 4 #[.slice A la.length ca, .slice B lb.length cb, .int .i64 n, .int .i64 m] w (Quiet (.bool true) w) := by
  have HA := Lib.hid hA; have HB := Lib.hid hB; have HAL := Lib.hid (alive_calls w)
  have a1 : (la.length : Int) ≤ 300 := by omega
  have b1 : (lb.length : Int) ≤ 300 := by omega
  have h9 := num3 n m hn1 hn2 hm1 hm2
  obtain ⟨d, hd⟩ : ∃ d, cmpB (numB n) (numB m) = d := ⟨_, rfl⟩
  rw [hd] at h9
  obtain ⟨d1, d2⟩ := h9
  have HD := Lib.hid hd
  clear hA hB hd
  have hst := str_toList
  rcases cmp3 la lb with ⟨h1, h2, h3, h4⟩ | ⟨h1, h2, h3, h4⟩ | ⟨h1, h2, h3, h4⟩
  all_goals
    have H3 := Lib.hid h3; have H4 := Lib.hid h4
    clear h3 h4
    go_enter Try.func4, Try.ntmps4
    go_wp2_with (first
      | (go_at_call 7; (with_reducible refine HAL.out.mono ?_); rintro e w1 ⟨rfl, f1⟩; have F1 := Lib.hid f1; have kA := conv_n (c := ca) rfl (HA.out.fr f1 (by simp)); have kB := conv_n (c := cb) rfl (HB.out.fr f1 (by simp)); clear f1))
    have WX0 := Wr.new F1.out
    have WX := Lib.hid (WX0.fr0 ((Fr.refl [] _).alloc (.cells #[.slice none 0 0, .int .i64 0] 27)))
    have hy := Wr.new WX0.fr_
    have hsz : (w1.alloc (.cells #[.slice none 0 0, .int .i64 0] 27)).heap.size = w1.heap.size + 1 := by simp
    rw [hsz] at hy
    have WY := Lib.hid hy
    clear hy hsz
    clear WX0
    refine (WX.out.op (num_calls _ _ _ _ _ WX.out.is_ n hn1 hn2 (by simp))).mono ?_
    rintro e w2 ⟨rfl, ob2, i2, k2, f2⟩
    have WX2 := Lib.hid i2
    have WY2 := Lib.hid (WY.out.fr f2 (by simp) (by simp) (by have := F1.out.size; simp; omega))
    have K2 := Lib.hid (show ∀ k ∈ ob2, w1.heap.size + 1 < k from fun k hk => by have := (k2 k hk).resolve_left (by simp); simp at this; omega)
    clear i2 k2 f2
    go_wp2_with fail
    refine (WY2.out.op (num_calls _ _ _ _ _ WY2.out.is_ m hm1 hm2 (by simp))).mono ?_
    rintro e w3 ⟨rfl, ob3, i3, k3, f3⟩
    have WY3 := Lib.hid i3
    have WX3 := Lib.hid (WX2.out.fr f3 (by simp) (fun k hk => by have := K2.out k hk; simp; omega) (by have := F1.out.size; simp; omega))
    clear i3 k3 f3
    have HN8 := Lib.hid (show ([] ++ numB n).length = 8 by simp [numB_length])
    have HM8 := Lib.hid (show ([] ++ numB m).length = 8 by simp [numB_length])
    go_wp2_with fail
    refine (bytes_ok _ _ _ _ WX3.out.is_ 8 HN8.out (by omega)).mono ?_
    rintro e w4 ⟨A4, c4, rfl, hc4, hr4, _, _, f4⟩
    have WY4 := Lib.hid (WY3.out.fr0 f4); have WX4 := Lib.hid (WX3.out.fr0 f4); have R4 := Lib.hid hr4
    clear hr4 f4
    go_wp2_with fail
    refine (bytes_ok _ _ _ _ WY4.out.is_ 8 HM8.out (by omega)).mono ?_
    rintro e w5 ⟨A5, c5, rfl, hc5, hr5, _, _, f5⟩
    have WX5 := Lib.hid (WX4.out.fr0 f5); have R5 := Lib.hid hr5; have R4' := Lib.hid (R4.out.fr f5 (by simp))
    clear hr5 f5
    go_wp2_with fail
    refine (cmp_n _ A4 A5 c4 c5 8 8 _ _ HN8.out HM8.out R4'.out R5.out (by omega) (by omega)).mono ?_
    rintro e w6 ⟨rfl, f6⟩
    have W6 := Lib.hid (WX5.out.fr0 f6)
    clear f6
    rw [List.nil_append, List.nil_append, HD.out]
    go_wp2_with fail
    refine (cmp_n w6 A B ca cb _ _ la lb rfl rfl (HA.out.fr W6.out.fr_ (by simp)) (HB.out.fr W6.out.fr_ (by simp)) (by omega) (by omega)).mono ?_
    rintro e w7 ⟨rfl, f7⟩
    have W7 := Lib.hid (W6.out.fr0 f7)
    clear f7
    rw [H3.out]
    go_wp2_with fail
    refine (cmp_n w7 B A cb ca _ _ lb la rfl rfl (HB.out.fr W7.out.fr_ (by simp)) (HA.out.fr W7.out.fr_ (by simp)) (by omega) (by omega)).mono ?_
    rintro e w8 ⟨rfl, f8⟩
    have W8 := Lib.hid (W7.out.fr0 f8)
    clear f8
    rw [H4.out]
    go_wp2_with fail
    go_ret
    exact ⟨by first | rfl | simp [d1, d2], W8.out.fr_⟩

theorem order_long (w : World) (A B : Option Addr) (ca cb n1 n2 : Nat) (n m : Int) (h : 300 < n1 ∨ 300 < n2) :
    Calls Try.prog 4 #[.slice A n1 ca, .slice B n2 cb, .int .i64 n, .int .i64 m] w (Quiet (.bool true) w) := by
  have HAL := Lib.hid (alive_calls w)
  by_cases h1 : 300 < n1
  · have h1' : (300 : Int) < (n1 : Int) := by omega
    clear h
    go_enter Try.func4, Try.ntmps4
    go_wp2_with (go_at_call 7; (with_reducible refine HAL.out.mono ?_); rintro e w1 ⟨rfl, f1⟩; have F1 := Lib.hid f1; clear f1)
    go_ret
    exact ⟨rfl, F1.out⟩
  · have h2 : (300 : Int) < (n2 : Int) := by omega
    have h1' : (n1 : Int) ≤ 300 := by omega
    clear h h1
    go_enter Try.func4, Try.ntmps4
    go_wp2_with (go_at_call 7; (with_reducible refine HAL.out.mono ?_); rintro e w1 ⟨rfl, f1⟩; have F1 := Lib.hid f1; clear f1)
    go_ret
    exact ⟨rfl, F1.out⟩
theorem order_all (w : World) (A B : Option Addr) (ca cb : Nat) (la lb : List UInt8) (n m : Int) (hn1 : -9223372036854775808 ≤ n) (hn2 : n ≤ 9223372036854775807) (hm1 : -9223372036854775808 ≤ m) (hm2 : m ≤ 9223372036854775807) (hA : Rd w A la) (hB : Rd w B lb) :
    Calls Try.prog 4 #[.slice A la.length ca, .slice B lb.length cb, .int .i64 n, .int .i64 m] w (Quiet (.bool true) w) := by
  by_cases h : 300 < la.length ∨ 300 < lb.length
  · exact order_long w A B ca cb _ _ n m h
  · exact order_walk w A B ca cb la lb n m hn1 hn2 hm1 hm2 hA hB (by omega) (by omega)
end Go.Proofs.Ytaclinojbifkbaa
