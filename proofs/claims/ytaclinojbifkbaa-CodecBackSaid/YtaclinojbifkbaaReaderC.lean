/- codec.Reader: numbers, texts, digests, rows. -/
import Derived.Test.YtaclinojbifkbaaCodecRef
namespace Go.Proofs.Ytaclinojbifkbaa
open Go.RowKit

/-- the number behind k bytes, the highest first -/
def beN (l : List UInt8) : Nat := l.foldl (fun u x => 256 * u + x.toNat) 0
theorem beN_snoc (l : List UInt8) (x : UInt8) : beN (l ++ [x]) = 256 * beN l + x.toNat := by simp [beN]
theorem beN_go : ∀ (l : List UInt8) (a : Nat), l.foldl (fun u x => 256 * u + x.toNat) a < (a + 1) * 256 ^ l.length
  | [], a => by simp
  | x :: l, a => by
    have h := beN_go l (256 * a + x.toNat)
    have hx := x.toNat_lt
    have h2 : (256 * a + x.toNat + 1) * 256 ^ l.length ≤ (256 * (a + 1)) * 256 ^ l.length := Nat.mul_le_mul_right _ (by omega)
    rw [List.foldl_cons, List.length_cons, Nat.pow_succ]
    have h3 : (a + 1) * (256 ^ l.length * 256) = (256 * (a + 1)) * 256 ^ l.length := by rw [Nat.mul_comm (256 ^ l.length) 256, ← Nat.mul_assoc, Nat.mul_comm (a + 1) 256]
    omega
theorem beN_lt (l : List UInt8) : beN l < 256 ^ l.length := by
  have := beN_go l 0
  simpa [beN] using this
theorem beN_numB (n : Int) (h1 : -9223372036854775808 ≤ n) (h2 : n ≤ 9223372036854775807) : beN (numB n) = nu n := by
  have hu : nu n < 18446744073709551616 := by unfold nu; omega
  unfold numB beN
  simp only [show List.range 8 = [0, 1, 2, 3, 4, 5, 6, 7] from rfl, List.map_cons, List.map_nil, List.foldl_cons, List.foldl_nil, UInt8.toNat_ofNat']
  simp
  omega
theorem u64_or_nat (a b : Nat) (ha : a < 18446744073709551616) (hb : b < 18446744073709551616) : bits .or .u64 (a : Int) (b : Int) = ((a ||| b : Nat) : Int) := by
  have hx : a ||| b < 2 ^ 64 := Nat.or_lt_two_pow (by omega) (by omega)
  show IntKind.u64.wrap ((BitVec.ofInt 64 (a : Int) ||| BitVec.ofInt 64 (b : Int)).toNat : Int) = _
  have e : ∀ a : Nat, a < 18446744073709551616 → (BitVec.ofInt 64 (a : Int)).toNat = a := fun a ha => by
    rw [BitVec.ofInt_natCast, BitVec.toNat_ofNat]; exact Nat.mod_eq_of_lt (by omega)
  rw [BitVec.toNat_or, e a ha, e b hb, IntKind.wrap_u64]
  omega
theorem u64_step (u : Nat) (x : UInt8) (hu : u < 72057594037927936) : bits .or .u64 ((u : Int) * 256) (IntKind.u64.wrap (x.toNat : Int)) = ((256 * u + x.toNat : Nat) : Int) := by
  have hx := x.toNat_lt
  have e : ((u : Int) * 256) = ((2 ^ 8 * u : Nat) : Int) := by omega
  have e2 : IntKind.u64.wrap (x.toNat : Int) = (x.toNat : Int) := by rw [IntKind.wrap_u64]; omega
  rw [e, e2, u64_or_nat _ _ (by omega) (by omega), or_add _ _ _ (show x.toNat < 2 ^ 8 by omega)]
theorem unflip (n : Int) (h1 : -9223372036854775808 ≤ n) (h2 : n ≤ 9223372036854775807) : wrap64 (bits .xor .u64 (nu n : Int) 9223372036854775808) = n := by
  have hu : nu n < 18446744073709551616 := by unfold nu; omega
  rw [u64_xor _ _ (by omega) (by omega) (by omega) (by omega)]
  rw [show (9223372036854775808 : Int).toNat = 9223372036854775808 from rfl, Int.toNat_natCast, xor63' _ hu]
  unfold wrap64 nu
  omega

theorem rnum_ok (w : World) (p g : Nat) (n : Int) (h1 : -9223372036854775808 ≤ n) (h2 : n ≤ 9223372036854775807) (l : List UInt8) (h : IsR w p g (numB n ++ l) 0) (hl : l.length + 8 ≤ 1000000000) :
    Calls Try.prog 26 #[.pointer (some ⟨p, 0, none⟩)] w (RPost w p g (.int .i64 n) l 0) := by
  have hlen : (numB n).length = 8 := numB_length n
  have HT : Hid (Calls Try.prog 37 #[.pointer (some ⟨p, 0, none⟩), .int .i64 8] w (TakeSome w p g (numB n ++ l) 8)) := Lib.hid (take_some w p g _ h 8 (by omega) (by rw [List.length_append, hlen]; omega) (by rw [List.length_append, hlen]; omega))
  have HLEN := Lib.hid hlen
  clear h hlen
  go_enter Try.func26, Try.ntmps26
  go_wp2_with fail
  refine HT.out.mono ?_
  rintro e w1 ⟨off, c, rfl, hc, hcell, hi, hf⟩
  have HCELL := Lib.hid hcell; have HI := Lib.hid hi; have HF := Lib.hid hf
  clear hcell hi hf
  go_wp2_with fail
  go_loopg [5, 17] 8 (fun gg u v wr => ∃ k, k ≤ 8 ∧ gg = 8 - k ∧ v = .int .i64 k ∧ u = .int .u64 (beN ((numB n).take k) : Int) ∧ w1 = wr)
  case atStart => exact ⟨0, by omega, by omega, rfl, rfl, rfl⟩
  case round =>
    obtain ⟨k, hk, rfl, rfl, rfl, rfl⟩ := hrel
    by_cases hlt : k < 8
    · obtain ⟨x, hx⟩ : ∃ x, (numB n)[k]? = some x := ⟨(numB n)[k]'(by rw [HLEN.out]; exact hlt), by simp⟩
      have hc1 : w1.cell? ⟨g, off + k, none⟩ = some (.int .u8 (x.toNat : Int)) := HCELL.out k x (by
        rw [List.getElem?_take, if_pos hlt, List.getElem?_append_left (by rw [HLEN.out]; exact hlt)]; exact hx)
      have hb := beN_lt ((numB n).take k)
      rw [List.length_take, HLEN.out, Nat.min_eq_left (by omega)] at hb
      have hb2 : beN ((numB n).take k) < 72057594037927936 := Nat.lt_of_lt_of_le hb (by
        have : (256 : Nat) ^ k ≤ 256 ^ 7 := Nat.pow_le_pow_right (by omega) (by omega)
        omega)
      have hsn : beN ((numB n).take (k + 1)) = 256 * beN ((numB n).take k) + x.toNat := by
        obtain ⟨h3, h4⟩ := List.getElem?_eq_some_iff.1 hx
        rw [List.take_succ_eq_append_getElem h3, h4, beN_snoc]
      have HSN := Lib.hid hsn
      obtain ⟨u, hu⟩ : ∃ u, beN ((numB n).take k) = u := ⟨_, rfl⟩
      rw [hu] at hb2 HSN ⊢
      have hst := u64_step u x hb2
      have HST := Lib.hid hst
      clear hx hb hsn hu hst
      go_wp2_with fail
      go_roundg (8 - (k + 1))
      case measure => omega
      case rel => exact ⟨k + 1, by omega, rfl, by go_num, by rw [HSN.out, ← HST.out], rfl⟩
    · obtain rfl : k = 8 := by omega
      have e : (numB n).take 8 = numB n := List.take_of_length_le (by rw [HLEN.out]; omega)
      rw [e, beN_numB n h1 h2]
      have HU := Lib.hid (unflip n h1 h2)
      clear e
      obtain ⟨u, hu⟩ : ∃ u, nu n = u := ⟨_, rfl⟩
      have hub : u < 18446744073709551616 := by rw [← hu]; unfold nu; omega
      rw [hu] at HU ⊢
      clear hu
      go_wp2_with fail
      go_ret
      rw [HU.out]
      have hd : (numB n ++ l).drop 8 = l := by rw [← HLEN.out]; simp
      have hi := HI.out
      rw [hd] at hi
      exact ⟨rfl, hi, HF.out⟩

theorem cnt_countB (m : Nat) (h : m ≤ 1048576) : cnt (UInt8.ofNat (m / 65536)) (UInt8.ofNat (m / 256)) (UInt8.ofNat m) = m := by
  unfold cnt
  rw [UInt8.toNat_ofNat', UInt8.toNat_ofNat', UInt8.toNat_ofNat']
  omega
theorem rcount_yes (w : World) (p g m : Nat) (l : List UInt8) (h : IsR w p g (countB m ++ l) 0) (hl : l.length + 3 ≤ 1000000000) (most : Int) (hm : (m : Int) ≤ most) (hm2 : m ≤ 1048576) :
    Calls Try.prog 33 #[.pointer (some ⟨p, 0, none⟩), .int .i64 most] w (RPost w p g (.int .i64 (m : Int)) l 0) := by
  have := rcount_calls w p g _ _ _ l h hl most
  rw [cnt_countB m hm2, if_pos (by omega)] at this
  exact this

theorem clone_rd (w : World) (A : Option Addr) (m c : Nat) (l : List UInt8) (hm : l.length = m) (hA : Rd w A l) (hn : m ≤ 1000000000) :
    Calls Try.prog 36 #[.slice A m c] w (RdN w m l) := by
  subst hm
  exact (clone_n w A l.length c l rfl hA hn).mono fun e w' ⟨A1, c1, he, ho, hf⟩ => OwnN.rd ⟨A1, c1, he, ho, hf⟩

/-- what a read of a text leaves -/
def RTPost (w : World) (p g : Nat) (m : Nat) (l rest : List UInt8) (e : Ending) (w' : World) : Prop :=
  ∃ A c, e = .returned (.slice A m c) ∧ Rd w' A l ∧ (∀ b off, A = some ⟨b, off, none⟩ → w.heap.size ≤ b ∧ b < w'.heap.size) ∧ IsR w' p g rest 0 ∧ Fr [p] w w'

theorem rtext_ok (w : World) (p g m : Nat) (l rest : List UInt8) (h : IsR w p g (countB m ++ (l ++ rest)) 0) (hm : l.length = m) (hl : l.length + rest.length + 3 ≤ 1000000000) (most : Int) (hmo : (m : Int) ≤ most) (hm2 : m ≤ 1048576) :
    Calls Try.prog 27 #[.pointer (some ⟨p, 0, none⟩), .int .i64 most] w (RTPost w p g m l rest) := by
  have HC := Lib.hid (rcount_yes w p g m _ h (by simp; omega) most hmo hm2)
  have hb : (l ++ rest).length ≤ 1000000000 := by simp; omega
  have hn : m ≤ (l ++ rest).length := by simp; omega
  have HB := Lib.hid hb; have HN := Lib.hid hn; have HM := Lib.hid hm
  clear h hm hl hb hn
  go_enter Try.func27, Try.ntmps27
  go_wp2_with fail
  refine HC.out.mono ?_
  rintro e w1 ⟨rfl, i1, f1⟩
  have I1 := Lib.hid i1; have F1 := Lib.hid f1; clear i1 f1
  go_wp2_with fail
  refine (take_ok w1 p g _ I1.out m HN.out HB.out).mono ?_
  rintro e w2 ⟨A, c, rfl, hc, hr, ha, hi, hf⟩
  have ht : (l ++ rest).take m = l := by rw [← HM.out]; simp
  have hd : (l ++ rest).drop m = rest := by rw [← HM.out]; simp
  rw [ht] at hr; rw [hd] at hi
  have R2 := Lib.hid hr; have I2 := Lib.hid hi; have F2 := Lib.hid (F1.out.trans hf)
  clear hr ha hi hf ht hd
  go_wp2_with fail
  refine (clone_rd w2 A m c l HM.out R2.out (by omega)).mono ?_
  rintro e w3 ⟨A3, c3, rfl, _, hrd, hb, hf⟩
  have R3 := Lib.hid hrd; have B3 := Lib.hid hb; have I3 := Lib.hid (I2.out.fr hf (by simp) (by simp)); have F3 := Lib.hid (F2.out.trans' hf (by simp)); have S3 := Lib.hid F2.out.size
  clear hrd hb hf
  go_wp2_with fail
  go_ret
  exact ⟨A3, c3, rfl, R3.out, fun b off hA => ⟨Nat.le_trans S3.out (B3.out b off hA).1, (B3.out b off hA).2⟩, I3.out, F3.out⟩

end Go.Proofs.Ytaclinojbifkbaa
