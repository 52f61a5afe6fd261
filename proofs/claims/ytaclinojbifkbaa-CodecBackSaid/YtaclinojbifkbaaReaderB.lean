/- codec.Reader: contracts of the parts, where what is read is there. -/
import Derived.Test.YtaclinojbifkbaaReader
namespace Go.Proofs.Ytaclinojbifkbaa
open Go.RowKit

def TakeSome (w : World) (p g : Nat) (l : List UInt8) (n : Nat) (e : Ending) (w' : World) : Prop :=
  ∃ off c, e = .returned (.tuple #[.slice (some ⟨g, off, none⟩) n c, .bool true]) ∧ n ≤ c ∧ (∀ j x, (l.take n)[j]? = some x → w'.cell? ⟨g, off + j, none⟩ = some (u8v x)) ∧ IsR w' p g (l.drop n) 0 ∧ Fr [p] w w'
theorem take_some (w : World) (p g : Nat) (l : List UInt8) (h : IsR w p g l 0) (n : Nat) (hn0 : 0 < n) (hn : n ≤ l.length) (hl : l.length ≤ 1000000000) :
    Calls Try.prog 37 #[.pointer (some ⟨p, 0, none⟩), .int .i64 (n : Int)] w (TakeSome w p g l n) := by
  refine (take_ok w p g l h n hn hl).mono ?_
  rintro e w' ⟨A, c, rfl, hc, hr, ha, hi, hf⟩
  obtain ⟨b, off, rfl, hcell⟩ := hr (by simp; omega)
  have := (ha _ rfl).1
  simp at this
  subst this
  exact ⟨off, c, rfl, hc, hcell, hi, hf⟩

/-- what a read of a part leaves -/
def RPost (w : World) (p g : Nat) (v : Value) (l : List UInt8) (er : Int) (e : Ending) (w' : World) : Prop :=
  e = .returned v ∧ IsR w' p g l er ∧ Fr [p] w w'

theorem rbyte_ok (w : World) (p g : Nat) (x : UInt8) (l : List UInt8) (h : IsR w p g (x :: l) 0) (hl : l.length + 1 ≤ 1000000000) :
    Calls Try.prog 24 #[.pointer (some ⟨p, 0, none⟩)] w (RPost w p g (.int .u8 (x.toNat : Int)) l 0) := by
  have HT : Hid (Calls Try.prog 37 #[.pointer (some ⟨p, 0, none⟩), .int .i64 1] w (TakeSome w p g (x :: l) 1)) := Lib.hid (take_some w p g _ h 1 (by omega) (by simp) (by simpa using hl))
  clear h
  go_enter Try.func24, Try.ntmps24
  go_wp2_with fail
  refine HT.out.mono ?_
  rintro e w1 ⟨off, c, rfl, hc, hcell, hi, hf⟩
  have h0 : w1.cell? ⟨g, off, none⟩ = some (.int .u8 (x.toNat : Int)) := hcell 0 x rfl
  have HI := Lib.hid hi; have HF := Lib.hid hf
  clear hcell hi hf
  go_wp2_with fail
  go_ret
  exact ⟨rfl, HI.out, HF.out⟩

theorem rtruth_ok (w : World) (p g : Nat) (b : Bool) (l : List UInt8) (h : IsR w p g ((if b then 1 else 0) :: l) 0) (hl : l.length + 1 ≤ 1000000000) :
    Calls Try.prog 25 #[.pointer (some ⟨p, 0, none⟩)] w (RPost w p g (.bool b) l 0) := by
  cases b with
  | true =>
    have HT : Hid (Calls Try.prog 24 #[.pointer (some ⟨p, 0, none⟩)] w (RPost w p g (.int .u8 1) l 0)) := Lib.hid (rbyte_ok w p g 1 l h hl)
    clear h
    go_enter Try.func25, Try.ntmps25
    go_wp2_with fail
    refine HT.out.mono ?_
    rintro e w1 ⟨rfl, hi, hf⟩
    have HI := Lib.hid hi; have HF := Lib.hid hf; clear hi hf
    go_wp2_with fail
    go_ret
    exact ⟨rfl, HI.out, HF.out⟩
  | false =>
    have HT : Hid (Calls Try.prog 24 #[.pointer (some ⟨p, 0, none⟩)] w (RPost w p g (.int .u8 0) l 0)) := Lib.hid (rbyte_ok w p g 0 l h hl)
    clear h
    go_enter Try.func25, Try.ntmps25
    go_wp2_with fail
    refine HT.out.mono ?_
    rintro e w1 ⟨rfl, hi, hf⟩
    have HI := Lib.hid hi; have HF := Lib.hid hf; clear hi hf
    go_wp2_with fail
    go_ret
    exact ⟨rfl, HI.out, HF.out⟩

/-- a count, out of its bytes -/
def cnt (x y z : UInt8) : Nat := 65536 * x.toNat + 256 * y.toNat + z.toNat

theorem i64_or_nat (a b : Nat) (ha : a < 9223372036854775808) (hb : b < 9223372036854775808) : bits .or .i64 (a : Int) (b : Int) = ((a ||| b : Nat) : Int) := by
  have hx : a ||| b < 2 ^ 63 := Nat.or_lt_two_pow (by omega) (by omega)
  show IntKind.i64.wrap ((BitVec.ofInt 64 (a : Int) ||| BitVec.ofInt 64 (b : Int)).toNat : Int) = _
  have e : ∀ a : Nat, a < 9223372036854775808 → (BitVec.ofInt 64 (a : Int)).toNat = a := fun a ha => by
    rw [BitVec.ofInt_natCast, BitVec.toNat_ofNat]; exact Nat.mod_eq_of_lt (by omega)
  rw [BitVec.toNat_or, e a ha, e b hb, IntKind.wrap_i64]
  omega
theorem or_add (a b k : Nat) (h : b < 2 ^ k) : (2 ^ k * a) ||| b = 2 ^ k * a + b := (Nat.two_pow_add_eq_or_of_lt h a).symm

theorem cnt_bits (x y z : UInt8) : bits .or .i64 (bits .or .i64 ((x.toNat : Int) * 65536) ((y.toNat : Int) * 256)) (z.toNat : Int) = (cnt x y z : Int) := by
  have hx := x.toNat_lt; have hy := y.toNat_lt; have hz := z.toNat_lt
  have e1 : ((x.toNat : Int) * 65536) = ((2 ^ 16 * x.toNat : Nat) : Int) := by omega
  have e2 : ((y.toNat : Int) * 256) = ((2 ^ 8 * y.toNat : Nat) : Int) := by omega
  rw [e1, e2, i64_or_nat _ _ (by omega) (by omega), or_add _ _ _ (show 2 ^ 8 * y.toNat < 2 ^ 16 by omega)]
  have e3 : 2 ^ 16 * x.toNat + 2 ^ 8 * y.toNat = 2 ^ 8 * (2 ^ 8 * x.toNat + y.toNat) := by omega
  rw [e3, i64_or_nat _ _ (by omega) (by omega), or_add _ _ _ (show z.toNat < 2 ^ 8 by omega)]
  unfold cnt
  omega
theorem IsR.drewN {w : World} {p g : Nat} {l : List UInt8} {e : Int} (h : IsR w p g l e) (n : Nat) : IsR (w.drewN n) p g l e := h.fr ((Fr.refl [] w).drewN n) (by simp) (by simp)

theorem rcount_calls (w : World) (p g : Nat) (x y z : UInt8) (l : List UInt8) (h : IsR w p g (x :: y :: z :: l) 0) (hl : l.length + 3 ≤ 1000000000) (most : Int) :
    Calls Try.prog 33 #[.pointer (some ⟨p, 0, none⟩), .int .i64 most] w
      (if (cnt x y z : Int) ≤ min most 1048576 then RPost w p g (.int .i64 (cnt x y z : Int)) l 0 else RPost w p g (.int .i64 0) l 10) := by
  have HT : Hid (Calls Try.prog 37 #[.pointer (some ⟨p, 0, none⟩), .int .i64 3] w (TakeSome w p g (x :: y :: z :: l) 3)) := Lib.hid (take_some w p g _ h 3 (by omega) (by simp) (by simpa using hl))
  have hx := x.toNat_lt; have hy := y.toNat_lt; have hz := z.toNat_lt
  clear h
  obtain ⟨Q, hQ⟩ : ∃ Q, Q = (if (cnt x y z : Int) ≤ min most 1048576 then RPost w p g (.int .i64 (cnt x y z : Int)) l 0 else RPost w p g (.int .i64 0) l 10) := ⟨_, rfl⟩
  rw [← hQ]
  have HQ := Lib.hid hQ
  clear hQ
  go_enter Try.func33, Try.ntmps33
  go_wp2_with fail
  refine HT.out.mono ?_
  rintro e w1 ⟨off, c, rfl, hc, hcell, hi, hf⟩
  have h0 : w1.cell? ⟨g, off, none⟩ = some (.int .u8 (x.toNat : Int)) := hcell 0 x rfl
  have h1 : w1.cell? ⟨g, off + 1, none⟩ = some (.int .u8 (y.toNat : Int)) := hcell 1 y rfl
  have h2 : w1.cell? ⟨g, off + 2, none⟩ = some (.int .u8 (z.toNat : Int)) := hcell 2 z rfl
  have HI := Lib.hid hi; have HF := Lib.hid hf
  clear hcell hi hf
  go_upto_region 4 with fail
  go_cut [7] (fun v wc => v = .int .i64 (cnt x y z : Int) ∧ IsR wc p g l 0 ∧ Fr [p] w wc)
  case first =>
    go_quiet (fail)
    go_wp2_with fail
    go_meet
    exact ⟨by rw [cnt_bits], HI.out.drewN _, HF.out.drewN _⟩
  case rest =>
    obtain ⟨rfl, hi, hf⟩ := hcut
    have HI2 := Lib.hid hi; have HF2 := Lib.hid hf
    obtain ⟨v, hv⟩ : ∃ v, cnt x y z = v := ⟨_, rfl⟩
    have hvb : v ≤ 16777215 := by rw [← hv]; unfold cnt; omega
    rw [hv] at HQ ⊢
    have HV := Lib.hid hv
    clear hi hf hv
    by_cases hle : (v : Int) ≤ min most 1048576
    · have HE := Lib.hid (HQ.out.trans (if_pos hle))
      have hm1 : (v : Int) ≤ most := by omega
      have hm2 : v ≤ 1048576 := by omega
      clear hle
      by_cases hm : most ≤ 1048576
      · go_wp2_with fail
        rw [HE.out]; exact ⟨rfl, HI2.out, HF2.out⟩
      · go_wp2_with fail
        rw [HE.out]; exact ⟨rfl, HI2.out, HF2.out⟩
    · have HE := Lib.hid (HQ.out.trans (if_neg hle))
      have HFL := Lib.hid (fail_first wc p g l HI2.out 10)
      by_cases hm : most ≤ 1048576
      · have hgt : most < v := by omega
        clear hle
        go_wp2_with fail
        refine HFL.out.mono ?_
        rintro e w3 ⟨rfl, hi3, hf3⟩
        have HI3 := Lib.hid hi3; have HF3 := Lib.hid hf3; clear hi3 hf3
        go_wp2_with fail
        rw [HE.out]; exact ⟨rfl, HI3.out, HF2.out.trans HF3.out⟩
      · have hgt : 1048576 < v := by omega
        clear hle
        go_wp2_with fail
        refine HFL.out.mono ?_
        rintro e w3 ⟨rfl, hi3, hf3⟩
        have HI3 := Lib.hid hi3; have HF3 := Lib.hid hf3; clear hi3 hf3
        go_wp2_with fail
        rw [HE.out]; exact ⟨rfl, HI3.out, HF2.out.trans HF3.out⟩

end Go.Proofs.Ytaclinojbifkbaa
