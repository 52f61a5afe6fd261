/- codec.Writer: contracts. -/
import Derived.Test.YtaclinojbifkbaaMem
import Derived.Test.YtaclinojbifkbaaProg
import Derived.Test.YtaclinojbifkbaaChecked
import Derived.RegionTactic
import Derived.Outline
import Derived.KernelRfl
import Derived.Deep.RegionLaw
import Derived.Deep.DeepCutAuto
namespace Go.Proofs.Ytaclinojbifkbaa
open Go.RowKit

theorem infoU8 : (Try.prog.info? 5).map (fun i => (i.zero, i.size, i.bytes)) = some (some (.int .u8 0), 1, 1) := by kernel_rfl

/-- At block p lies a writer; its bytes lie in one of the blocks ob. -/
structure IsW (w : World) (p : Nat) (ob : List Nat) (bs : List UInt8) (e : Int) : Prop where
  lies : ∃ v, Blk w p 27 #[v, .int .i64 e] ∧ w.ownsRow 0 5 1 v bs.length (u8s bs) ∧ ∀ k, v.ownBlock = some k → k ∈ ob
  out : p ∉ ob

theorem IsW.fr {w w' : World} {p : Nat} {ob : List Nat} {bs : List UInt8} {e : Int} {S : List Nat} (h : IsW w p ob bs e) (hf : Fr S w w') (hp : p ∉ S) (ho : ∀ k ∈ ob, k ∉ S) : IsW w' p ob bs e := by
  obtain ⟨⟨v, hb, hown, hk⟩, hout⟩ := h
  exact ⟨⟨v, hb.fr hf hp, own_fr hown hf (fun k hk' => ho k (hk k hk')), hk⟩, hout⟩
theorem IsW.lt {w : World} {p : Nat} {ob : List Nat} {bs : List UInt8} {e : Int} (h : IsW w p ob bs e) : p < w.heap.size := by
  obtain ⟨⟨v, hb, _⟩, _⟩ := h
  exact hb.lt

/-- What an operation of a writer leaves. -/
def WOut (w : World) (p : Nat) (ob : List Nat) (bs : List UInt8) (er : Int) (e : Ending) (w' : World) : Prop :=
  e = .returned (.tuple #[]) ∧ ∃ ob', IsW w' p ob' bs er ∧ (∀ k ∈ ob', k ∈ ob ∨ w.heap.size ≤ k) ∧ Fr (p :: ob) w w'

theorem put_no (w : World) (p : Nat) (ob : List Nat) (bs : List UInt8) (er : Int) (h : IsW w p ob bs er) (v : Value) :
    Calls Try.prog 35 #[.pointer (some ⟨p, 0, none⟩), .bool false, v] w (WOut w p ob bs 10) := by
  obtain ⟨⟨x, hb, hown, hk⟩, hout⟩ := h
  have h1 : w.cell? ⟨p, 1, none⟩ = some (.int .i64 er) := by rw [hb.cell]; rfl
  have hz := hb.frozen
  have HB := Lib.hid hb; have HO := Lib.hid hown; have HK := Lib.hid hk; have HOUT := Lib.hid hout
  clear hb hown hk hout
  go_enter Try.func35, Try.ntmps35
  go_wp2
  refine bodyPost_ret (results_none rfl _ _ _) rfl ?_
  have hb2 := HB.out.set_ 1 (.int .i64 10)
  have hs : Fr [p] w (w.setCell ⟨p, 1, none⟩ (.int .i64 10)) := (Fr.refl _ _).setCell (.inl (by simp)) _
  refine ⟨rfl, ob, ⟨⟨x, by simpa using hb2, own_fr HO.out hs (fun k hk => ?_), HK.out⟩, HOUT.out⟩, fun k hk => .inl hk, (Fr.refl _ _).setCell (.inl (by simp)) _⟩
  have := own_blk_ne HO.out HB.out (by decide)
  intro hm
  simp at hm
  subst hm
  exact this hk

theorem put_yes (w : World) (p : Nat) (ob : List Nat) (bs : List UInt8) (er : Int) (h : IsW w p ob bs er) (A : Option Addr) (m c : Nat) (l : List UInt8) (hm : l.length = m) (hA : Rd w A l) (hbd : bs.length + m ≤ 1000000000) :
    Calls Try.prog 35 #[.pointer (some ⟨p, 0, none⟩), .bool true, .slice A m c] w (WOut w p ob (bs ++ l) er) := by
  obtain ⟨⟨x, hb, hown, hk⟩, hout⟩ := h
  have h0 : w.cell? ⟨p, 0, none⟩ = some x := by rw [hb.cell]; rfl
  have hz := hb.frozen
  have hne := own_blk_ne hown hb (by decide)
  have HNE := Lib.hid hne
  have HB := Lib.hid hb; have HO := Lib.hid hown; have HK := Lib.hid hk; have HOUT := Lib.hid hout
  have HS := Lib.hid hA.srcAll
  have h63 : bs.length + m ≤ maxLen := by unfold maxLen; omega
  have hby : (bs.length + m) * 1 ≤ 140737488355328 := by omega
  have HLEN := Lib.hid (show (u8s l).length = m * 1 by simp [hm])
  have HM := Lib.hid hm
  clear hb hown hk hout hne hA hm
  go_enter Try.func35, Try.ntmps35
  go_wp2_with (at_builtin; refine wpList_append rfl (.tmp 15) (.tmp 16) 22 rfl 0 5 (.int .u8 0) 1 1 Try.underlying22 infoU8 rfl (by decide) x bs.length (u8s bs) rfl HO.out _ _ _ (u8s l) rfl HLEN.out HS.out (u8s_one _) h63 hby (Nat.zero_le _) ?_; intro v1 w1 ho1 hw1 hg1 hb1; rw [← u8s_append] at ho1; obtain ⟨A1, c1, rfl, ho2⟩ := own_form ho1; have HO2 := Lib.hid ho2; have HG1 := Lib.hid hg1; have HB1 := Lib.hid hb1; have hbk := HB.out.grown hg1 (fun e => HNE.out e.symm); have HBK := Lib.hid hbk; have d0 := hbk.cell 0; have dz := hbk.frozen 0; simp only [List.getElem?_toArray, List.getElem?_cons_zero] at d0; clear ho1 ho2 hw1 hg1 hb1 hbk)
  go_end0
  rw [← List.length_append]
  have hb3 := HBK.out.set_ 0 (.slice A1 (bs ++ l).length c1)
  have hs : Fr [p] w1 (w1.setCell ⟨p, 0, none⟩ (.slice A1 (bs ++ l).length c1)) := (Fr.refl _ _).setCell (.inl (by simp)) _
  have hne := own_blk_ne HO2.out HBK.out (by decide)
  have hold := HK.out
  refine ⟨rfl, ((Value.slice A1 (bs ++ l).length c1).ownBlock).toList, ⟨⟨_, by simpa using hb3, own_fr HO2.out hs (fun k hk => ?_), fun k hk => by simp only [Option.mem_toList, Option.mem_def]; exact hk⟩, ?_⟩, fun k hk => ?_, ?_⟩
  · intro hm
    simp only [List.mem_singleton] at hm
    subst hm
    exact hne hk
  · intro hm
    simp only [Option.mem_toList, Option.mem_def] at hm
    exact hne hm
  · simp only [Option.mem_toList, Option.mem_def] at hk
    rcases HB1.out with h | h
    · exact .inl (hold k (by rw [← h]; exact hk))
    · rw [h] at hk; cases hk; exact .inr (Nat.le_refl _)
  · have f1 : Fr ob w w1 := grown_fr HG1.out hold
    exact ((f1.mono (fun x hx => .inl (by simp [hx]))).setCell (.inl (by simp)) _)

/-- two in a row -/
theorem WOut.then {w w1 w2 : World} {p : Nat} {ob ob1 : List Nat} (h1 : ∀ k ∈ ob1, k ∈ ob ∨ w.heap.size ≤ k) (f1 : Fr (p :: ob) w w1) {bs : List UInt8} {er : Int} {e : Ending} (h2 : WOut w1 p ob1 bs er e w2) : WOut w p ob bs er e w2 := by
  obtain ⟨rfl, ob2, hi, hk, f2⟩ := h2
  refine ⟨rfl, ob2, hi, fun k hk2 => ?_, f1.trans' f2 (fun x hx => ?_)⟩
  · rcases hk k hk2 with h | h
    · exact h1 k h
    · exact .inr (Nat.le_trans f1.size h)
  · rcases List.mem_cons.1 hx with rfl | hx
    · exact .inl (by simp)
    · rcases h1 x hx with h | h
      · exact .inl (by simp [h])
      · exact .inr h

theorem byte_calls (w : World) (p : Nat) (ob : List Nat) (bs : List UInt8) (er : Int) (h : IsW w p ob bs er) (x : Int) (y : UInt8) (hxy : x = (y.toNat : Int)) (hbd : bs.length + 1 ≤ 1000000000) :
    Calls Try.prog 14 #[.pointer (some ⟨p, 0, none⟩), .int .u8 x] w (WOut w p ob (bs ++ [y]) er) := by
  subst hxy
  have hf := (Fr.refl [] w).alloc (.cells #[u8v y] 5)
  have hb := Blk.new w 5 #[u8v y]
  have hrd : Rd (w.alloc (.cells #[u8v y] 5)) (some ⟨w.heap.size, 0, none⟩) [y] := fun _ => ⟨_, 0, rfl, fun j z hz => by
    rw [hb.cell]
    cases j with
    | zero => simp at hz; subst hz; rfl
    | succ j => simp at hz⟩
  have HC := Lib.hid (put_yes (w.alloc (.cells #[u8v y] 5)) p ob bs er (h.fr hf (by simp) (by simp)) (some ⟨w.heap.size, 0, none⟩) 1 1 [y] rfl hrd hbd)
  have HF := Lib.hid (hf.mono (T := p :: ob) (by simp))
  clear h hf hb hrd
  go_enter Try.func14, Try.ntmps14
  go_wp2_with (go_at_call 35; (with_reducible refine HC.out.mono ?_); rintro e w1 ⟨rfl, hh⟩; have HH := Lib.hid hh; clear hh)
  go_end0
  obtain ⟨ob', hi, hk, f1⟩ := HH.out
  exact ⟨rfl, ob', hi, fun k hk' => (hk k hk').imp id (fun h => by simp at h; omega), HF.out.trans f1⟩

theorem err_calls (w : World) (p : Nat) (ob : List Nat) (bs : List UInt8) (er : Int) (h : IsW w p ob bs er) :
    Calls Try.prog 22 #[.pointer (some ⟨p, 0, none⟩)] w fun e w' => e = .returned (.int .i64 er) ∧ w = w' := by
  obtain ⟨⟨x, hb, _, _⟩, _⟩ := h
  have h1 : w.cell? ⟨p, 1, none⟩ = some (.int .i64 er) := by rw [hb.cell]; rfl
  clear hb
  go_enter Try.func22, Try.ntmps22
  go_wp2
  go_ret
  exact ⟨rfl, rfl⟩

theorem truth_calls (w : World) (p : Nat) (ob : List Nat) (bs : List UInt8) (er : Int) (h : IsW w p ob bs er) (b : Bool) (hbd : bs.length + 1 ≤ 1000000000) :
    Calls Try.prog 15 #[.pointer (some ⟨p, 0, none⟩), .bool b] w (WOut w p ob (bs ++ [if b then 1 else 0]) er) := by
  cases b with
  | true =>
    have HC := Lib.hid (byte_calls w p ob bs er h 1 1 rfl hbd)
    clear h
    go_enter Try.func15, Try.ntmps15
    go_wp2_with (go_at_call 14; (with_reducible refine HC.out.mono ?_); rintro e w1 ⟨rfl, hh⟩; have HH := Lib.hid hh; clear hh)
    refine bodyPost_ret (results_none rfl _ _ _) rfl ?_
    exact ⟨rfl, HH.out⟩
  | false =>
    have HC := Lib.hid (byte_calls w p ob bs er h 0 0 rfl hbd)
    clear h
    go_enter Try.func15, Try.ntmps15
    go_wp2_with (go_at_call 14; (with_reducible refine HC.out.mono ?_); rintro e w1 ⟨rfl, hh⟩; have HH := Lib.hid hh; clear hh)
    go_end0
    exact ⟨rfl, HH.out⟩

/-- a count's bytes, a number's -/
def countB (n : Nat) : List UInt8 := [UInt8.ofNat (n / 65536), UInt8.ofNat (n / 256), UInt8.ofNat n]
def nu (n : Int) : Nat := (n + 9223372036854775808).toNat
def numB (n : Int) : List UInt8 := (List.range 8).map fun k => UInt8.ofNat (nu n / 256 ^ (7 - k))

theorem count_no (w : World) (p : Nat) (ob : List Nat) (bs : List UInt8) (er : Int) (h : IsW w p ob bs er) (n : Int) (hn : n < 0 ∨ 1048576 < n) (hn1 : -9223372036854775808 ≤ n) (hn2 : n ≤ 9223372036854775807) :
    Calls Try.prog 17 #[.pointer (some ⟨p, 0, none⟩), .int .i64 n] w (WOut w p ob bs 10) := by
  have H := Lib.hid h
  have HC : Hid (∀ w', Fr [] w w' → ∀ v b, b = false → Calls Try.prog 35 #[.pointer (some ⟨p, 0, none⟩), .bool b, v] w' (WOut w' p ob bs 10)) := Lib.hid (fun w' hf v b hb => by subst hb; exact put_no w' p ob bs er (h.fr hf (by simp) (by simp)) v)
  clear h
  by_cases h0 : n < 0
  · clear hn
    go_enter Try.func17, Try.ntmps17
    go_wp2_with fail
    refine (HC.out _ ((Fr.refl [] w).alloc _) _ _ (by simp; try omega)).mono ?_
    rintro e w1 ⟨rfl, hh⟩
    have HH := Lib.hid hh; clear hh
    go_wp2_with fail
    go_end0
    obtain ⟨ob', hi, hk, f1⟩ := HH.out
    exact ⟨rfl, ob', hi, fun k hk' => (hk k hk').imp id (fun h => by simp at h; omega), (((Fr.refl [] w).alloc _).mono (T := p :: ob) (by simp)).trans f1⟩
  · have h1 : 1048576 < n := by omega
    clear hn
    go_enter Try.func17, Try.ntmps17
    go_wp2_with fail
    refine (HC.out _ ((Fr.refl [] w).alloc _) _ _ (by simp; try omega)).mono ?_
    rintro e w1 ⟨rfl, hh⟩
    have HH := Lib.hid hh; clear hh
    go_wp2_with fail
    go_end0
    obtain ⟨ob', hi, hk, f1⟩ := HH.out
    exact ⟨rfl, ob', hi, fun k hk' => (hk k hk').imp id (fun h => by simp at h; omega), (((Fr.refl [] w).alloc _).mono (T := p :: ob) (by simp)).trans f1⟩

theorem rd_cells {w : World} {g : Nat} {l : List UInt8} {t : TypeId} (h : Blk w g t (u8s l).toArray) : Rd w (some ⟨g, 0, none⟩) l := fun _ => ⟨g, 0, rfl, fun j x hx => by rw [h.cell, Nat.zero_add]; simp [u8s, hx]⟩

theorem count_yes (w : World) (p : Nat) (ob : List Nat) (bs : List UInt8) (er : Int) (h : IsW w p ob bs er) (n : Nat) (hn : n ≤ 1048576) (hbd : bs.length + 3 ≤ 1000000000) :
    Calls Try.prog 17 #[.pointer (some ⟨p, 0, none⟩), .int .i64 (n : Int)] w (WOut w p ob (bs ++ countB n) er) := by
  have HC : Hid (∀ w' g, Fr [] w w' → Blk w' g 5 (u8s (countB n)).toArray → ∀ b, b = true → Calls Try.prog 35 #[.pointer (some ⟨p, 0, none⟩), .bool b, .slice (some ⟨g, 0, none⟩) 3 3] w' (WOut w' p ob (bs ++ countB n) er)) :=
    Lib.hid (fun w' g hf hb b hbt => by subst hbt; exact put_yes w' p ob bs er (h.fr hf (by simp) (by simp)) (some ⟨g, 0, none⟩) 3 3 (countB n) rfl (rd_cells hb) hbd)
  clear h
  go_enter Try.func17, Try.ntmps17
  go_wp2_with fail
  refine (HC.out _ w.heap.size ((Fr.refl [] w).alloc _) ?_ _ (by simp; omega)).mono ?_
  · have e : (u8s (countB n)).toArray = #[.int .u8 ((n : Int) / 65536), .int .u8 ((n : Int) / 256 % 256), .int .u8 ((n : Int) % 256)] := by
      simp [u8s, countB, u8v, UInt8.toNat_ofNat']
      omega
    rw [e]
    exact Blk.new w _ _
  rintro e w1 ⟨rfl, hh⟩
  have HH := Lib.hid hh; clear hh
  go_wp2_with fail
  go_end0
  obtain ⟨ob', hi, hk, f1⟩ := HH.out
  exact ⟨rfl, ob', hi, fun k hk' => (hk k hk').imp id (fun h => by simp at h; omega), (((Fr.refl [] w).alloc _).mono (T := p :: ob) (by simp)).trans f1⟩

theorem xor63 (y : Nat) (h : y < 2^63) : y ^^^ 2^63 = 2^63 + y := by
  apply Nat.eq_of_testBit_eq
  intro i
  rw [Nat.testBit_xor, Nat.testBit_two_pow]
  rcases Nat.lt_trichotomy i 63 with h1 | h1 | h1
  · rw [Nat.testBit_two_pow_add_gt h1]
    simp [show ¬ 63 = i by omega]
  · subst h1; rw [Nat.testBit_two_pow_add_eq]; simp
  · have e1 : y.testBit i = false := Nat.testBit_lt_two_pow (Nat.lt_of_lt_of_le h (Nat.pow_le_pow_right (by omega) (by omega)))
    have e2 : (2^63 + y).testBit i = false := Nat.testBit_lt_two_pow (Nat.lt_of_lt_of_le (show 2^63 + y < 2^64 by omega) (Nat.pow_le_pow_right (by omega) (by omega)))
    rw [e1, e2]
    simp [show ¬ 63 = i by omega]
theorem xor63' (x : Nat) (h : x < 18446744073709551616) : x ^^^ 9223372036854775808 = (x + 9223372036854775808) % 18446744073709551616 := by
  by_cases h1 : x < 2^63
  · rw [show (9223372036854775808 : Nat) = 2^63 from rfl, xor63 x h1]; omega
  · obtain ⟨y, rfl⟩ : ∃ y, x = 2^63 + y := ⟨x - 2^63, by omega⟩
    rw [← xor63 y (by omega), show (9223372036854775808 : Nat) = 2^63 from rfl, Nat.xor_assoc, Nat.xor_self, Nat.xor_zero]
    rw [xor63 y (by omega)]; omega

theorem wrap_flip (n : Int) (h1 : -9223372036854775808 ≤ n) (h2 : n ≤ 9223372036854775807) : bits .xor .u64 (IntKind.u64.wrap n) 9223372036854775808 = (nu n : Int) := by
  rw [IntKind.wrap_u64]
  have h0 : 0 ≤ n % 18446744073709551616 := Int.emod_nonneg _ (by omega)
  rw [u64_xor _ _ h0 (by omega) (by omega) (by omega)]
  have e : (n % 18446744073709551616).toNat ^^^ (9223372036854775808 : Int).toNat = nu n := by
    rw [show (9223372036854775808 : Int).toNat = 9223372036854775808 from rfl, xor63' _ (by omega)]
    unfold nu
    omega
  rw [e]

theorem num_byte (u k : Nat) (hk : k < 8) : (u : Int) / 2 ^ (56 - 8 * k) % 256 = ((UInt8.ofNat (u / 256 ^ (7 - k))).toNat : Int) := by
  have e : (2 : Nat) ^ (56 - 8 * k) = 256 ^ (7 - k) := by
    rw [show (256 : Nat) = 2 ^ 8 from rfl, ← Nat.pow_mul]; congr 1; omega
  rw [UInt8.toNat_ofNat']
  have e2 : ((2 : Int) ^ (56 - 8 * k)) = ((256 ^ (7 - k) : Nat) : Int) := by rw [← e]; simp
  rw [e2]
  omega

set_option maxHeartbeats 1000000 in
theorem num_calls (w : World) (p : Nat) (ob : List Nat) (bs : List UInt8) (er : Int) (h : IsW w p ob bs er) (n : Int) (h1 : -9223372036854775808 ≤ n) (h2 : n ≤ 9223372036854775807) (hbd : bs.length + 8 ≤ 1000000000) :
    Calls Try.prog 10 #[.pointer (some ⟨p, 0, none⟩), .int .i64 n] w (WOut w p ob (bs ++ numB n) er) := by
  have H := Lib.hid h
  clear h
  go_enter Try.func10, Try.ntmps10
  go_upto_region 0 with fail
  go_cut [4] (fun v wc => w = wc ∧ v = .int .u64 (nu n : Int))
  case first =>
    go_wp2_with fail
    go_meet
    exact ⟨rfl, by rw [wrap_flip n h1 h2]⟩
  case rest =>
    obtain ⟨rfl, rfl⟩ := hcut
    have hu : nu n < 18446744073709551616 := by unfold nu; omega
    obtain ⟨u, hu'⟩ : ∃ u, nu n = u := ⟨_, rfl⟩
    have HU := Lib.hid hu'
    rw [hu'] at hu ⊢
    clear hu'
    go_wp2_with fail
    go_loopg [5] 8 (fun g v wr => ∃ k ob', k ≤ 8 ∧ g = 8 - k ∧ v = .int .i64 (56 - 8 * (k : Int)) ∧ IsW wr p ob' (bs ++ (numB n).take k) er ∧ (∀ k ∈ ob', k ∈ ob ∨ w.heap.size ≤ k) ∧ Fr (p :: ob) w wr)
    case atStart => exact ⟨0, ob, by omega, by omega, rfl, by simpa using H.out, fun k hk => .inl hk, Fr.refl _ _⟩
    case round =>
      obtain ⟨k, ob', hk, rfl, rfl, hi, hob, hf⟩ := hrel
      have HI := Lib.hid hi; have HOB := Lib.hid hob; have HF := Lib.hid hf
      clear hi hob hf
      by_cases hlt : k < 8
      · have hbl : (bs ++ (numB n).take k).length + 1 ≤ 1000000000 := by simp; omega
        have HY := Lib.hid (num_byte u k hlt)
        go_wp2_with fail
        refine (byte_calls wr p ob' _ er HI.out _ (UInt8.ofNat (u / 256 ^ (7 - k))) HY.out hbl).mono ?_
        rintro e w1 ⟨rfl, hh⟩
        have HH := Lib.hid hh; clear hh
        go_wp2_with fail
        go_roundg (8 - (k + 1))
        case measure => omega
        case rel =>
          obtain ⟨_, ob2, hi, hk2, f1⟩ := WOut.then HOB.out HF.out (show WOut wr p ob' _ er (.returned (.tuple #[])) w1 from ⟨rfl, HH.out⟩)
          refine ⟨k + 1, ob2, by omega, rfl, ?_, ?_, hk2, f1⟩
          · congr 1; omega
          · have e : (numB n).take (k + 1) = (numB n).take k ++ [UInt8.ofNat (u / 256 ^ (7 - k))] := by
              rw [List.take_succ_eq_append_getElem (by simp [numB]; omega)]
              congr 2
              simp [numB, HU.out]
            rw [e, ← List.append_assoc]; exact hi
      · obtain rfl : k = 8 := by omega
        go_wp2_with fail
        go_end0
        have e : (numB n).take 8 = numB n := List.take_of_length_le (by simp [numB])
        exact ⟨rfl, ob', by rw [← e]; exact HI.out, HOB.out, HF.out⟩

theorem text_calls (w : World) (p : Nat) (ob : List Nat) (bs : List UInt8) (er : Int) (h : IsW w p ob bs er) (A : Option Addr) (m c : Nat) (l : List UInt8) (hm : l.length = m) (hA : Rd w A l) (hAo : 0 < l.length → ∀ b off, A = some ⟨b, off, none⟩ → b ≠ p ∧ b ∉ ob ∧ b < w.heap.size)
    (hm2 : m ≤ 1048576) (hbd : bs.length + m + 3 ≤ 1000000000) :
    Calls Try.prog 8 #[.pointer (some ⟨p, 0, none⟩), .slice A m c] w (WOut w p ob (bs ++ (countB m ++ l)) er) := by
  have HC := Lib.hid (count_yes w p ob bs er h m hm2 (by omega))
  have HP : Hid (∀ w1 ob1, IsW w1 p ob1 (bs ++ countB m) er → Rd w1 A l → Calls Try.prog 35 #[.pointer (some ⟨p, 0, none⟩), .bool true, .slice A m c] w1 (WOut w1 p ob1 (bs ++ countB m ++ l) er)) :=
    Lib.hid (fun w1 ob1 hi hr => put_yes w1 p ob1 _ er hi A m c l hm hr (by simp [countB]; omega))
  have HA := Lib.hid hA
  have HAO := Lib.hid hAo
  clear h hA hAo hm
  go_enter Try.func8, Try.ntmps8
  go_wp2_with fail
  refine HC.out.mono ?_
  rintro e w1 ⟨rfl, ob1, hi, hk, f1⟩
  have HR := Lib.hid (HA.out.fr0 f1 (fun hl b off hb => by have := HAO.out hl b off hb; simp [this.1, this.2.1]))
  have HI := Lib.hid hi; have HK := Lib.hid hk; have F1 := Lib.hid f1
  clear hi hk f1
  go_wp2_with fail
  refine (HP.out w1 ob1 HI.out HR.out).mono ?_
  rintro e w2 ⟨rfl, hh⟩
  have HH := Lib.hid hh; clear hh
  go_wp2_with fail
  go_end0
  have := WOut.then HK.out F1.out (show WOut w1 p ob1 _ er (.returned (.tuple #[])) w2 from ⟨rfl, HH.out⟩)
  rwa [List.append_assoc] at this

theorem digest_calls (w : World) (p : Nat) (ob : List Nat) (bs : List UInt8) (er : Int) (h : IsW w p ob bs er) (d : List UInt8) (hd : d.length = 32) (hbd : bs.length + 32 ≤ 1000000000) :
    Calls Try.prog 19 #[.pointer (some ⟨p, 0, none⟩), .agg (u8s d).toArray] w (WOut w p ob (bs ++ d) er) := by
  have hf := (Fr.refl [] w).alloc (.cells (u8s d).toArray 38)
  have HC := Lib.hid (put_yes _ p ob bs er (h.fr hf (by simp) (by simp)) (some ⟨w.heap.size, 0, none⟩) 32 32 d hd (rd_cells (Blk.new w 38 (u8s d).toArray)) hbd)
  have HF := Lib.hid (hf.mono (T := p :: ob) (by simp))
  clear h hf
  go_enter Try.func19, Try.ntmps19
  go_wp2_with fail
  refine HC.out.mono ?_
  rintro e w1 ⟨rfl, hh⟩
  have HH := Lib.hid hh; clear hh
  go_wp2_with fail
  go_end0
  obtain ⟨ob', hi, hk, f1⟩ := HH.out
  exact ⟨rfl, ob', hi, fun k hk' => (hk k hk').imp id (fun h => by simp at h; omega), HF.out.trans f1⟩

/-- a row's bytes -/
def rowB (r : List Int) : List UInt8 := UInt8.ofNat r.length :: r.flatMap numB
theorem numB_length (n : Int) : (numB n).length = 8 := by simp [numB]
theorem nums_length (r : List Int) : (r.flatMap numB).length = 8 * r.length := by
  induction r with
  | nil => rfl
  | cons x r ih => simp [numB_length, ih]; omega

theorem row_no (w : World) (p : Nat) (ob : List Nat) (bs : List UInt8) (er : Int) (h : IsW w p ob bs er) (A : Option Addr) (n c : Nat) (hn : 255 < n) :
    Calls Try.prog 20 #[.pointer (some ⟨p, 0, none⟩), .slice A n c] w (WOut w p ob bs 10) := by
  obtain ⟨⟨x, hb, hown, hk⟩, hout⟩ := h
  have h1 : w.cell? ⟨p, 1, none⟩ = some (.int .i64 er) := by rw [hb.cell]; rfl
  have hz := hb.frozen
  have HB := Lib.hid hb; have HO := Lib.hid hown; have HK := Lib.hid hk; have HOUT := Lib.hid hout
  clear hb hown hk hout
  go_enter Try.func20, Try.ntmps20
  go_wp2
  refine bodyPost_ret (results_none rfl _ _ _) rfl ?_
  have hb2 := HB.out.set_ 1 (.int .i64 10)
  have hs : Fr [p] w (w.setCell ⟨p, 1, none⟩ (.int .i64 10)) := (Fr.refl _ _).setCell (.inl (by simp)) _
  refine ⟨rfl, ob, ⟨⟨x, by simpa using hb2, own_fr HO.out hs (fun k hk => ?_), HK.out⟩, HOUT.out⟩, fun k hk => .inl hk, (Fr.refl _ _).setCell (.inl (by simp)) _⟩
  have := own_blk_ne HO.out HB.out (by decide)
  intro hm
  simp at hm
  subst hm
  exact this hk

theorem size64 : (Try.prog.info? 2).map (·.size) = some 1 := by kernel_rfl

theorem row_yes (w : World) (p : Nat) (ob : List Nat) (bs : List UInt8) (er : Int) (h : IsW w p ob bs er) (A : Option Addr) (c : Nat) (r : List Int) (hr : RdI w A r) (hrb : ∀ x ∈ r, -9223372036854775808 ≤ x ∧ x ≤ 9223372036854775807)
    (hAo : 0 < r.length → ∀ b off, A = some ⟨b, off, none⟩ → b ≠ p ∧ b ∉ ob ∧ b < w.heap.size) (hn : r.length ≤ 255) (hbd : bs.length + 8 * r.length + 1 ≤ 1000000000) :
    Calls Try.prog 20 #[.pointer (some ⟨p, 0, none⟩), .slice A r.length c] w (WOut w p ob (bs ++ rowB r) er) := by
  have HC := Lib.hid (byte_calls w p ob bs er h (r.length : Int) (UInt8.ofNat r.length) (by rw [UInt8.toNat_ofNat']; omega) (by omega))
  have HR := Lib.hid hr; have HAO := Lib.hid hAo; have HRB := Lib.hid hrb
  clear h hr hAo hrb
  go_enter Try.func20, Try.ntmps20
  go_wp2_with fail
  refine HC.out.mono ?_
  rintro e w1 ⟨rfl, ob1, hi, hk, f1⟩
  have HI := Lib.hid hi; have HK := Lib.hid hk; have F1 := Lib.hid f1
  clear hi hk f1
  go_wp2_with fail
  go_loopg [19] r.length (fun g v wr => ∃ k ob', k ≤ r.length ∧ g = r.length - k ∧ v = .int .i64 k ∧ IsW wr p ob' (bs ++ (UInt8.ofNat r.length :: (r.take k).flatMap numB)) er ∧ (∀ k ∈ ob', k ∈ ob ∨ w.heap.size ≤ k) ∧ Fr (p :: ob) w wr)
  case atStart => exact ⟨0, ob1, by omega, by omega, rfl, by simpa using HI.out, HK.out, F1.out⟩
  case round =>
    obtain ⟨k, ob', hk, rfl, rfl, hi, hob, hf⟩ := hrel
    have HI := Lib.hid hi; have HOB := Lib.hid hob; have HF := Lib.hid hf
    clear hi hob hf
    by_cases hlt : k < r.length
    · obtain ⟨x, hx⟩ : ∃ x, r[k]? = some x := ⟨r[k], by simp⟩
      have hrr := HR.out.fr0 HF.out (fun hl b off hb => by have := HAO.out hl b off hb; simp [this.1, this.2.1])
      obtain ⟨b, off, hA, hcell⟩ := hrr (by omega)
      have hc1 := hcell k x hx
      have hxb := HRB.out x (List.mem_of_getElem? hx)
      have hidx := fun w => run_index_slice' (P := Try.prog) w Try.underlying40 size64 (n := r.length) (c := c) hA hlt
      simp only [Nat.mul_one] at hidx
      have hbl : (bs ++ (UInt8.ofNat r.length :: (r.take k).flatMap numB)).length + 8 ≤ 1000000000 := by rw [List.length_append, List.length_cons, nums_length, List.length_take]; omega
      have HN := Lib.hid (num_calls wr p ob' _ er HI.out x hxb.1 hxb.2 hbl)
      have HX := Lib.hid hx
      clear hx hrr hcell hA hbl
      go_wp2_with fail
      refine HN.out.mono ?_
      rintro e w2 ⟨rfl, hh⟩
      have HH := Lib.hid hh; clear hh
      go_wp2_with fail
      go_roundg (r.length - (k + 1))
      case measure => omega
      case rel =>
        obtain ⟨_, ob2, hi, hk2, f1⟩ := WOut.then HOB.out HF.out (show WOut wr p ob' _ er (.returned (.tuple #[])) w2 from ⟨rfl, HH.out⟩)
        refine ⟨k + 1, ob2, by omega, rfl, by go_num, ?_, hk2, f1⟩
        have e : r.take (k + 1) = r.take k ++ [x] := by
          have hx' := HX.out
          obtain ⟨h1, h2⟩ := List.getElem?_eq_some_iff.1 hx'
          rw [List.take_succ_eq_append_getElem h1, h2]
        rw [e, List.flatMap_append]
        simpa using hi
    · obtain rfl : k = r.length := by omega
      go_wp2_with fail
      go_end0
      have := HI.out
      rw [List.take_length] at this
      exact ⟨rfl, ob', this, HOB.out, HF.out⟩

/-- A row of bytes that the call has made. -/
def OwnBytes (w : World) (l : List UInt8) (e : Ending) (w' : World) : Prop :=
  ∃ A c, e = .returned (.slice A l.length c) ∧ w'.ownsRow w.heap.size 5 1 (.slice A l.length c) l.length (u8s l) ∧ Fr [] w w'
theorem OwnBytes.mk' {w w' : World} {l : List UInt8} {v : Value} {n : Nat} (h : w'.ownsRow w.heap.size 5 1 v n (u8s l)) (hf : Fr [] w w') : OwnBytes w l (.returned v) w' := by
  obtain ⟨A, c, rfl, h'⟩ := own_form h
  exact ⟨A, c, rfl, h', hf⟩

theorem clone_calls (w : World) (A : Option Addr) (c : Nat) (l : List UInt8) (hA : Rd w A l) (hn : l.length ≤ 1000000000) :
    Calls Try.prog 36 #[.slice A l.length c] w (OwnBytes w l) := by
  have heq : ∀ w : World, (binOp .eql 22 (.slice A l.length c) (.slice none 0 0)).run Try.prog w = .ok (.bool A.isNone) w := fun w => Lib.run_eql_slice_nil (P := Try.prog) w 22 5 A l.length c 0 0 Try.underlying22
  have HA := Lib.hid hA
  have HL := Lib.hid hn
  cases A with
  | none =>
    have hl : l = [] := by
      rcases Nat.eq_zero_or_pos l.length with h0 | h0
      · exact List.eq_nil_of_length_eq_zero h0
      · obtain ⟨_, _, hA, _⟩ := hA h0; cases hA
    have HE := Lib.hid hl
    clear hA hn hl
    go_enter Try.func36, Try.ntmps36
    go_wp2
    go_ret
    rw [HE.out]
    exact OwnBytes.mk' (n := 0) (World.ownsRow_nil _ _ _ _) (Fr.refl _ _)
  | some ad =>
    have HS := Lib.hid ((hA.fr ((Fr.refl [] w).alloc (.cells #[] 5)) (by simp)).srcAll)
    have HO := Lib.hid (World.ownsRow_made (base := w.heap.size) (e := 5) (size := 1) w #[] 0 (Nat.le_refl _) (by decide) (by simp))
    have h63 : 0 + l.length ≤ maxLen := by unfold maxLen; omega
    have hby : (0 + l.length) * 1 ≤ 140737488355328 := by omega
    have hlen : (u8s l).length = l.length * 1 := by simp
    clear hA hn
    go_enter Try.func36, Try.ntmps36
    go_wp2_with (at_builtin; refine wpList_append rfl (.tmp 5) (.tmp 6) 22 rfl w.heap.size 5 (.int .u8 0) 1 1 Try.underlying22 infoU8 rfl (by decide) (.slice (some ⟨w.heap.size, 0, none⟩) 0 0) 0 [] rfl HO.out _ _ _ (u8s l) rfl hlen HS.out (u8s_one _) h63 hby (by simp) ?_; intro v1 w1 ho1 hw1 hg1 hb1)
    go_ret
    exact OwnBytes.mk' (by simpa using ho1) (((Fr.refl [] w).alloc _).thenBelow hw1)
theorem clone_n (w : World) (A : Option Addr) (m c : Nat) (l : List UInt8) (hm : l.length = m) (hA : Rd w A l) (hn : m ≤ 1000000000) :
    Calls Try.prog 36 #[.slice A m c] w (OwnBytes w l) := by
  subst hm
  exact clone_calls w A c l hA hn

theorem IsW.slice {w : World} {p : Nat} {ob : List Nat} {bs : List UInt8} {e : Int} (h : IsW w p ob bs e) :
    ∃ A c, Blk w p 27 #[.slice A bs.length c, .int .i64 e] ∧ w.ownsRow 0 5 1 (.slice A bs.length c) bs.length (u8s bs) ∧ Rd w A bs := by
  obtain ⟨⟨v, hb, hown, _⟩, _⟩ := h
  obtain ⟨A, c, rfl, hown'⟩ := own_form hown
  obtain ⟨A', c', e', _, _, hrd, _, _⟩ := own_rd hown'
  cases e'
  exact ⟨A, c, hb, hown', hrd⟩

/-- the bytes told: none where a part was refused -/
theorem bytes_calls (w : World) (p : Nat) (ob : List Nat) (bs : List UInt8) (er : Int) (h : IsW w p ob bs er) (hbd : bs.length ≤ 1000000000) :
    Calls Try.prog 9 #[.pointer (some ⟨p, 0, none⟩)] w (OwnBytes w (if er = 0 then bs else [])) := by
  obtain ⟨A, c, hb, hown, hrd⟩ := h.slice
  have h0 : w.cell? ⟨p, 0, none⟩ = some (.slice A bs.length c) := by rw [hb.cell]; rfl
  have h1 : w.cell? ⟨p, 1, none⟩ = some (.int .i64 er) := by rw [hb.cell]; rfl
  have HC := Lib.hid (clone_n w A bs.length c bs rfl hrd hbd)
  clear h hb hown hrd
  by_cases he : er = 0
  · rw [if_pos he]
    have hb : (er != 0) = false := by rw [bne_eq_false_iff_eq]; exact he
    clear he
    go_enter Try.func9, Try.ntmps9
    go_wp2_with fail
    refine HC.out.mono ?_
    rintro e w1 ⟨A1, c1, rfl, ho, hf⟩
    have HO := Lib.hid ho; have HF := Lib.hid hf; clear ho hf
    go_wp2_with fail
    go_ret
    exact ⟨A1, c1, rfl, HO.out, HF.out⟩
  · rw [if_neg he]
    have hb : (er != 0) = true := by rw [bne_iff_ne]; exact he
    clear he
    go_enter Try.func9, Try.ntmps9
    go_wp2_with fail
    go_ret
    exact OwnBytes.mk' (n := 0) (World.ownsRow_nil _ _ _ _) (Fr.refl _ _)
end Go.Proofs.Ytaclinojbifkbaa
