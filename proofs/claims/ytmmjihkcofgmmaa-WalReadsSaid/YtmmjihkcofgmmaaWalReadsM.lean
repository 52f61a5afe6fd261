/- WalReads: for every list of texts, every place, every byte and every further bytes the law returns true, and the arguments read behind the call as before; no condition. -/
import Derived.Test.YtmmjihkcofgmmaaGn
import Derived.Test.YtmmjihkcofgmmaaRows
import Derived.WalkKit
import Derived.ProofKit
import Derived.OpenShut
import Derived.ShutString
import Derived.ChangeOld
import Derived.Below

/- The walk of WalReads. -/
namespace Go.Proofs.Ytmmjihkcofgmmaa
open Go.RowKit
set_option linter.unusedVariables false

theorem openP_none {w : World} {p g n cap : Nat} {s : Dk.DS} {D : List Nat} {e : Ending} {w' : World} (h : OpenP w p g n cap s D none e w') : Fr [] w w' ∧ e = .returned (.tuple #[.pointer none, .int .i64 31]) := by
  obtain ⟨hf, ⟨_, he⟩ | ⟨T, k, x, lv, h, _⟩⟩ := h
  · exact ⟨hf, he⟩
  · cases h
theorem openP_some {w : World} {p g n cap : Nat} {s : Dk.DS} {D : List Nat} {e : Ending} {w' : World} {T : List (List UInt8)} {k : Nat} (h : OpenP w p g n cap s D (some (T, k)) e w') :
    Fr [] w w' ∧ ∃ x lv, e = .returned (.tuple #[.pointer (some ⟨x, 0, none⟩), .int .i64 0]) ∧ IsLog w' x p g n cap s lv T k false (x :: p :: g :: D) w.heap.size := by
  obtain ⟨hf, ⟨h, _⟩ | ⟨T', k', x, lv, h, he, _, hl⟩⟩ := h
  · cases h
  · injection h with h
    injection h with h1 h2
    subst h1 h2
    exact ⟨hf, x, lv, he, hl⟩
theorem readP_none {w : World} {e : Ending} {w' : World} (h : ReadP w none e w') : Fr [] w w' ∧ e = .returned (.tuple #[.slice none 0 0, .bool false]) := by
  obtain ⟨hf, ⟨_, he⟩ | ⟨T, k, x, lv, h, _⟩⟩ := h
  · exact ⟨hf, he⟩
  · cases h
theorem readP_some {w : World} {e : Ending} {w' : World} {T : List (List UInt8)} {k : Nat} (h : ReadP w (some (T, k)) e w') :
    Fr [] w w' ∧ ∃ A c, e = .returned (.tuple #[.slice A T.length c, .bool true]) ∧ TxIn w' A T ∧ T.length ≤ 4096 ∧ ∀ t ∈ T, t.length ≤ 100000 := by
  obtain ⟨hf, ⟨h, _⟩ | ⟨T', k', A, c, h, he, ht, h1, h2⟩⟩ := h
  · cases h
  · injection h with h
    injection h with h1' h2'
    subst h1' h2'
    exact ⟨hf, A, c, he, ht.inB, h1, h2⟩
theorem kT_few (T : List (List UInt8)) (h : ∀ t ∈ T, t.length ≤ 300) : kT T ≤ 6 * T.length := by
  induction T with
  | nil => exact Nat.le_refl _
  | cons t T ih =>
    have h1 := ih (fun x hx => h x (List.mem_cons_of_mem _ hx))
    have h2 := h t (List.mem_cons_self ..)
    have h3 := needN_le t.length (by omega)
    simp only [kT, List.map_cons, List.sum_cons, List.length_cons] at h1 ⊢
    omega
theorem ex_cuti (A : Option Addr) (m c i : Nat) (ha : 64 * i + 64 ≤ m) (hc : m ≤ c) : ∃ A', (∀ w, (Instr.sliceAt 26 (.slice A m c) (some (.int .i64 (64 * (i : Int)))) (some (.int .i64 (64 * (i : Int) + 64))) none).run Try.prog w = .ok (.slice A' 64 (c - 64 * i)) w) ∧ ∀ w b, b.length = m → Rd w A b → Rd w A' (secAt b i) := by
  obtain ⟨A', h1, h2⟩ := ex_cutm A m c (64 * i) ha hc
  refine ⟨A', fun w => ?_, fun w b hb hr => h2 w b hb hr⟩
  have h := h1 w
  rw [show ((64 * i : Nat) : Int) = 64 * (i : Int) by omega] at h
  exact h
theorem own_toRd {w : World} {base m c : Nat} {A : Option Addr} {l : List UInt8} (h : w.ownsRow base 5 1 (.slice A m c) m (u8s l)) : Rd w A l := OwnN.rdd h
theorem blk_rd {w : World} {g : Nat} {b : List UInt8} {tl : List Value} (h : Blk w g 5 (u8s b ++ tl).toArray) : Rd w (some ⟨g, 0, none⟩) b := fun _ => ⟨g, 0, rfl, fun j x hx => by
  rw [Nat.zero_add, h.cell, List.getElem?_toArray, List.getElem?_append_left (by rw [u8s_length]; exact (List.getElem?_eq_some_iff.1 hx).1), u8s_get, hx]
  rfl⟩
theorem ex_eql_same {a : Act} {o : Oper} {x y : Operand} {yt : TypeId} (w : World) (ho : o.op = .binOp .eql 41 x y yt) (xs : List UInt8) (h1 : a.eval x = .agg (u8s xs).toArray) (h2 : a.eval y = .agg (u8s xs).toArray) (hx : xs.length = 32) :
    (execOp a.eval o).run Try.prog w = .ok (.value (.bool true)) w := by
  have := ex_eql_dig w ho xs xs h1 h2 hx hx
  rwa [beq_self_eq_true] at this
theorem xor_byte (t y : UInt8) : bits .xor .u8 (t.toNat : Int) (y.toNat : Int) = ((t ^^^ y).toNat : Int) := by
  rw [u8_xor_nat _ _ t.toNat_lt y.toNat_lt, UInt8.toNat_xor]
set_option maxHeartbeats 8000000 in
set_option maxRecDepth 100000 in
theorem reads_walk08 (w : World) (A : Option Addr) (n c : Nat) (l : List (List UInt8)) (hn : l.length = n) (hT : TxIn w A l) (hmax : n ≤ maxLen) (hlen : ∀ (i : Nat) (x : List UInt8), l[i]? = some x → x.length ≤ maxLen) (z : Int) (hz : -9223372036854775808 ≤ z ∧ z ≤ 9223372036854775807) (y : UInt8) (B : Option Addr) (m d : Nat) (b : List UInt8) (hm : b.length = m) (hmd : m ≤ d) (hB : Rd w B b) (hmm : m ≤ maxLen) :
    Calls Try.prog 4 #[.slice A n c, .int .i64 z, .int .u8 (y.toNat : Int), .slice B m d] w (Agg (.bool true) w) := by
  have HAL := Lib.hid (alive08 w)
  unfold maxLen at hmax hmm
  have hnI : (0 : Int) ≤ (n : Int) ∧ (0 : Int) ≤ (m : Int) := by omega
  by_cases hg : 10 < n
  · have hgI : (10 : Int) < (n : Int) := by omega
    clear hn hT hlen hm hB hmd
    go_enter Try.func4, Try.ntmps4
    go_wp2_with (first
      | go_big_skip
      | (go_at_call 8; (with_reducible refine HAL.out.mono ?_); rintro e w2 ⟨rfl, f2⟩; have F2 := Lib.hid f2; clear f2))
    go_ret
    exact ⟨rfl, F2.out⟩
  · have hgI : ¬ (10 : Int) < (n : Int) := by omega
    by_cases hbig : 500 < m
    · have hbI : (500 : Int) < (m : Int) := by omega
      clear hn hT hlen hm hB hmd hg
      go_enter Try.func4, Try.ntmps4
      go_wp2_with (first
        | go_big_skip
        | (go_at_call 8; (with_reducible refine HAL.out.mono ?_); rintro e w2 ⟨rfl, f2⟩; have F2 := Lib.hid f2; clear f2))
      go_ret
      exact ⟨rfl, F2.out⟩
    · have hbI : ¬ (500 : Int) < (m : Int) := by omega
      have HT := Lib.hid hT; have HN := Lib.hid hn; have HLEN := Lib.hid hlen; have HB := Lib.hid hB; have HM := Lib.hid hm; have HMD := Lib.hid hmd
      have hn10 : n ≤ 10 := by omega
      have hm500 : m ≤ 500 := by omega
      clear hn hT hlen hm hB hmd hg hbig hmax hmm
      go_enter Try.func4, Try.ntmps4
      go_upto_region 6 with (first
        | go_big_skip
        | (go_at_call 8; (with_reducible refine HAL.out.mono ?_); rintro e w2 ⟨rfl, f2⟩; have F2 := Lib.hid f2; clear f2))
      go_loopg [9] n (fun gg u wr => ∃ k : Nat, k ≤ n ∧ gg = n - k ∧ u = .int .i64 (k : Int) ∧ Fr [] w wr ∧ ∀ i x, i < k → l[i]? = some x → x.length ≤ 300)
      case atStart => exact ⟨0, by omega, by omega, rfl, F2.out, fun i x h => by omega⟩
      case round =>
        rename World => wr
        obtain ⟨k, hk, rfl, rfl, hf, h300⟩ := hrel
        have HF := Lib.hid hf; have H300 := Lib.hid h300
        clear hf h300
        by_cases hlt : k < n
        · obtain ⟨t, ht⟩ : ∃ t, l[k]? = some t := ⟨l[k]'(by have := HN.out; omega), by simp⟩
          obtain ⟨bA, oA, A', c', hA, hbw, hc0, hrd⟩ := HT.out k t ht
          subst hA
          obtain ⟨tk, htk⟩ : ∃ tk, t.length = tk := ⟨_, rfl⟩
          have hcell : wr.cell? ⟨bA, oA + k, none⟩ = some (.slice A' tk c') := by rw [HF.out.cell (p := ⟨bA, oA + k, none⟩) hbw (by simp), hc0, htk]
          have hix := fun w' => ix_sl0 (P := Try.prog) (b := bA) (off := oA) (n := n) (c := c) (j := k) Try.underlying25 size_sl hlt w'
          have hkI : (0 : Int) ≤ (k : Int) ∧ (k : Int) < (n : Int) := by omega
          have htm : tk ≤ maxLen := htk ▸ HLEN.out k t ht
          unfold maxLen at htm
          by_cases h3 : 300 < tk
          · have h3I : (300 : Int) < (tk : Int) := by omega
            clear ht hc0 hrd htk hbw
            go_wp2_with fail
            go_ret
            exact ⟨rfl, HF.out⟩
          · have h3I : ¬ (300 : Int) < (tk : Int) := by omega
            have HH := Lib.hid (show ∀ i x, i < k + 1 → l[i]? = some x → x.length ≤ 300 from fun i x hi hx => by
              rcases Nat.lt_or_ge i k with h | h
              · exact H300.out i x h hx
              · obtain rfl : i = k := by omega
                rw [ht] at hx
                injection hx with hx
                subst hx
                omega)
            clear ht hc0 hrd htk hbw
            go_wp2_with fail
            go_roundg (n - (k + 1))
            case measure => omega
            case rel => exact ⟨k + 1, by omega, rfl, by go_num, HF.out, HH.out⟩
        · obtain rfl : n = k := by omega
          have hnk : ¬ (n : Int) < (n : Int) := by omega
          have HS3 := Lib.hid (show ∀ t ∈ l, t.length ≤ 300 from fun t ht => by
            obtain ⟨i, hi⟩ := List.getElem?_of_mem ht
            exact H300.out i t (by have := (List.getElem?_eq_some_iff.1 hi).1; have := HN.out; omega) hi)
          obtain ⟨M, hM⟩ : ∃ M, (allB l).length = M := ⟨_, rfl⟩
          have hMk : M ≤ 3840 := by
            rw [← hM, allB_length l (fun t ht => by have := HS3.out t ht; omega)]
            have := kT_few l HS3.out
            have := HN.out
            omega
          have HAT := Lib.hid (hM ▸ all08_calls wr A n c l HN.out (HT.out.fr HF.out) (by omega) (fun t ht => by have := HS3.out t ht; omega) (by rw [hM]; omega))
          have HMM := Lib.hid hM
          clear hM hlt
          go_upto_region 11 with (first
            | (go_at_call 11; (with_reducible refine HAT.out.mono ?_); rintro e w3 ⟨A3, c3, rfl, ho3, f3⟩; have HO3 := Lib.hid ho3; have HF3 := Lib.hid (HF.out.trans f3); have HFX := Lib.hid f3; clear ho3 f3)
            | (refine appU8 rfl (.tmp 41) (.tmp 42) rfl wr.heap.size (.slice A3 M c3) M (allB l) rfl HO3.out B m d b rfl HM.out (HB.out.fr HF3.out (by simp)) (by omega) HFX.out.size ?_; intro A4 c4 w4 ho4 f4 _; have HO4 := Lib.hid ho4; have HF4 := Lib.hid (HFX.out.trans' f4 (fun q hq => .inr (HO3.out.lt q (by simpa using hq)).1)); clear ho4 f4))
          obtain ⟨P3, hP3⟩ : ∃ P3, allB l ++ b = P3 := ⟨_, rfl⟩
          obtain ⟨L, hL⟩ : ∃ L, M + m = L := ⟨_, rfl⟩
          obtain ⟨base, hbase⟩ : ∃ base, wr.heap.size = base := ⟨_, rfl⟩
          have HO5 := Lib.hid (show w4.ownsRow base 5 1 (.slice A4 L c4) L (u8s P3) from hP3 ▸ hL ▸ hbase ▸ HO4.out)
          have HBS := Lib.hid (show w.heap.size ≤ base from hbase ▸ HF.out.size)
          have HZ4 := Lib.hid (show base ≤ w4.heap.size from hbase ▸ HF4.out.size)
          have HPL := Lib.hid (show P3.length = L from by rw [← hP3, List.length_append, HMM.out, HM.out, hL])
          have HF5 := Lib.hid (HF.out.trans HF4.out)
          have hLb : L ≤ 4340 := by omega
          rw [hL]
          clear hP3 hL hbase HO4 HF4 HFX HF3 HO3 HMM HAT HS3 HF H300 hMk hnk HN
          go_loopg [10] 64 (fun gg v wr => ∃ (k L1 : Nat) (A1 : Option Addr) (c1 : Nat), (k ≤ (64 - L % 64) % 64) ∧ gg = 64 - k ∧ L1 = L + k ∧ v = .slice A1 L1 c1 ∧ wr.ownsRow base 5 1 (.slice A1 L1 c1) L1 (u8s (P3 ++ List.replicate k 0)) ∧ Fr [] w wr ∧ base ≤ wr.heap.size)
          case atStart => exact ⟨0, L, A4, c4, by omega, by omega, rfl, rfl, by simpa using HO5.out, HF5.out, HZ4.out⟩
          case round =>
            clear HO5 HF5 HZ4
            rename World => wr
            obtain ⟨k', L1, A5, c5, hk', rfl, hL1, rfl, ho, hf, hzz⟩ := hrel
            have HL' := Lib.hid hL1; have HO := Lib.hid ho; have HFR := Lib.hid hf; have HZ := Lib.hid hzz
            clear ho hf hzz
            have hL1I : (0 : Int) ≤ (L1 : Int) ∧ (L1 : Int) ≤ 4500 := by omega
            clear hL1
            by_cases hz0 : L1 % 64 = 0
            · have hzb : ((L1 : Int).tmod 64 != 0) = false := by
                rw [show (L1 : Int).tmod 64 = ((L1 % 64 : Nat) : Int) from rfl, hz0]
                rfl
              obtain ⟨b0, hb0⟩ : ∃ b0, P3 ++ List.replicate k' 0 = b0 := ⟨_, rfl⟩
              have HB0 := Lib.hid (show b0.length = L1 from by rw [← hb0, List.length_append, List.length_replicate, HPL.out, HL'.out])
              have HO0 := Lib.hid (show wr.ownsRow base 5 1 (.slice A5 L1 c5) L1 (u8s b0) from hb0 ▸ HO.out)
              obtain ⟨NS, hNS⟩ : ∃ NS, L1 = 64 * NS := ⟨L1 / 64, by omega⟩
              have HNS := Lib.hid hNS
              have hNSb : NS ≤ 70 := by omega
              clear hb0 hNS HO HL' HPL
              rcases (show (z < 0) ∨ (0 ≤ z ∧ (L1 : Int) ≤ z) ∨ (0 ≤ z ∧ z < (L1 : Int)) from by omega) with hz1 | hz1 | hz1
              · have hz2 : ¬ (0 : Int) ≤ z := by omega
                go_upto_region 15 with go_big_skip
                have HC := Lib.hid (And.intro HB0.out (And.intro (own_le HO0.out) (And.intro (own_toRd HO0.out) HFR.out)))
                have hq1 : (L1 : Int).tdiv 64 = (NS : Int) := by rw [HNS.out]; exact tdiv64 NS
                have hq2 : (L1 : Int) / 64 = (NS : Int) := by have := HNS.out; omega
                have hNSI : (0 : Int) ≤ (NS : Int) ∧ (NS : Int) ≤ 70 := by omega
                go_upto_region 18 with (first
                  | go_big_skip
                  | (go_at_call 12; (with_reducible refine (newd_calls _ _ NS (by have := HNS.out; omega) (by omega)).mono ?_); rintro e w5 ⟨p, g, rfl, hp, hgg, hd5, f5⟩; have HP := Lib.hid (And.intro hp hgg); have HD5 := Lib.hid hd5; have HF5 := Lib.hid f5; clear hp hgg hd5 f5))
                go_wp2_with fail
                go_loopg [13] NS (fun gg u wq => ∃ (i : Nat) (s : Dk.DS), i ≤ NS ∧ gg = NS - i ∧ u = .int .i64 (i : Int) ∧ Dk.IsDisk wq p g NS NS s ∧ s.dead = false ∧ s.fuse = -1 ∧ s.writes ≤ i ∧ (∀ j, j < i → secAt s.bs j = secAt b0 j) ∧ Fr [] wr wq)
                case atStart => exact ⟨0, _, by omega, by omega, rfl, HD5.out, rfl, rfl, Nat.zero_le _, fun j h => by omega, HF5.out⟩
                case round =>
                  clear HD5 HF5
                  rename World => wq
                  obtain ⟨i, s, hi, rfl, rfl, hd, hdd, hfu, hwr, hse, hf⟩ := hrel
                  by_cases hlt : i < NS
                  · obtain ⟨A6, hc6, hr6⟩ := ex_cuti A5 L1 c5 i (by have := HNS.out; omega) HC.out.2.1
                    have hrw := hr6 wr b0 HC.out.1 HC.out.2.2.1
                    have hsl : (secAt b0 i).length = 64 := secAt_length (n := NS) (by rw [HC.out.1, HNS.out]) hlt
                    obtain ⟨b6, o6, hA6, hcells⟩ := hrw (by omega)
                    have hb6 : b6 < (wr).heap.size := World.block_lt_of_cell? _ _ (hcells 0 _ (List.getElem?_eq_getElem (by omega)))
                    have HW := Lib.hid (write_n wq p g NS NS s hd (i : Int) A6 64 (c5 - 64 * i) (secAt b0 i) hsl (hrw.fr hf (by simp)) (fun b o h => by
                      rw [hA6] at h
                      injection h with h
                      injection h with h
                      subst h
                      have h1 := HP.out.1
                      have h2 := hf.size
                      exact ⟨by omega, by omega⟩) (by have := HNS.out; have := HC.out.2.1; omega) (by omega) _ _ (wr_go hdd hlt hsl (by omega)))
                    have HSEC := Lib.hid (fun j (hj : j < i + 1) => (show secAt (splice s.bs (i * 64) (secAt b0 i)) j = secAt b0 j from by
                      rw [secAt_whole hd.len hlt hsl]
                      split
                      · rename_i h; rw [h]
                      · exact hse j (by omega)))
                    have HF := Lib.hid hf
                    have HFU := Lib.hid (And.intro hfu hwr)
                    have hltI : (i : Int) < (NS : Int) := by omega
                    have hltN : i < NS := hlt
                    have hiI : (0 : Int) ≤ (i : Int) ∧ (i : Int) ≤ 70 := by omega
                    clear hd hdd hfu hwr hse hf hrw hr6 hcells hA6 hb6 hsl hlt
                    go_wp2_with (go_at_call 13; (with_reducible refine HW.out.mono ?_); rintro e w7 ⟨rfl, hd7, f7⟩; have HD7 := Lib.hid hd7; have HF7 := Lib.hid (HF.out.trans' f7 (fun q hq => .inr (by have h1 := HP.out; rcases List.mem_cons.1 hq with h | h; exact h ▸ h1.1; exact List.mem_singleton.1 h ▸ h1.2))); clear hd7 f7)
                    go_roundg (NS - (i + 1))
                    case measure => omega
                    case rel => exact ⟨i + 1, _, by omega, rfl, by go_num, HD7.out, rfl, by have h1 := HFU.out.1; show (if 0 < s.fuse then s.fuse - 1 else s.fuse) = -1; rw [if_neg (by omega)]; exact h1, Nat.succ_le_succ HFU.out.2, HSEC.out, HF7.out⟩
                  · obtain rfl : NS = i := by omega
                    have hbs : s.bs = b0 := by
                      have h := secs_congr (a := s.bs) (b := b0) (m := NS) (fun j hj => hse j hj)
                      rwa [List.take_of_length_le (by rw [hd.len]; omega), List.take_of_length_le (by rw [HC.out.1, HNS.out]; omega)] at h
                    have hop := open_calls wq p g NS NS s hd hdd [] (by simp)
                    rw [hbs] at hop
                    have HRD := Lib.hid (fun W (f : Fr [] wr W) => read08_calls W A5 L1 c5 NS b0 HC.out.1 HNS.out (by omega) HC.out.2.1 (HC.out.2.2.1.fr f (by simp)))
                    have HF := Lib.hid hf
                    have hnlt : ¬ (NS : Int) < (NS : Int) := by omega
                    have hneq : ∀ (a : Addr) (w : World), (binOp .neq 33 (.pointer (some a)) (.pointer none)).run Try.prog w = .ok (.bool true) w := fun a w => by kernel_rfl
                    have heqn : ∀ (w : World), (binOp .eql 33 (.pointer none) (.pointer none)).run Try.prog w = .ok (.bool true) w := fun w => by kernel_rfl
                    clear hd hdd hfu hwr hse hf hlt
                    cases hR : openR NS b0 with
                    | none =>
                      rw [hR] at hop HRD
                      have HOP := Lib.hid hop
                      clear hop hR
                      go_wp2_with (first
                        | go_big_skip
                        | (go_at_call 14; (with_reducible refine HOP.out.mono ?_); intro e w7 h7; obtain ⟨f7, rfl⟩ := openP_none h7; have F7 := Lib.hid (HF.out.trans f7); clear h7 f7)
                        | (go_at_call 15; (with_reducible refine (HRD.out _ F7.out).mono ?_); intro e w8 h8; obtain ⟨f8, rfl⟩ := readP_none h8; have F8 := Lib.hid (F7.out.trans f8); clear h8 f8))
                      go_ret
                      exact ⟨rfl, HC.out.2.2.2.trans F8.out⟩
                    | some r =>
                      obtain ⟨T, k⟩ := r
                      rw [hR] at hop HRD
                      have HOP := Lib.hid hop
                      clear hop hR
                      go_wp2_with (first
                        | go_big_skip
                        | (go_at_call 14; (with_reducible refine HOP.out.mono ?_); intro e w7 h7; obtain ⟨f7, x, lv, rfl, hl7⟩ := openP_some h7; have F7 := Lib.hid (HF.out.trans f7); have HL7 := Lib.hid hl7; clear h7 f7 hl7)
                        | (go_at_call 15; (with_reducible refine (HRD.out _ F7.out).mono ?_); intro e w8 h8; obtain ⟨f8, AX, cx, rfl, htx, hTn, hTs⟩ := readP_some h8; have F8 := Lib.hid (F7.out.trans f8); have HL8 := Lib.hid (HL7.out.fr f8); have HTX := Lib.hid htx; have HTN := Lib.hid hTn; have HTS := Lib.hid hTs; clear h8 f8 htx hTn hTs)
                        | (go_at_call 17; (with_reducible refine (rec_calls w8 x p g NS NS s lv T k _ _ _ HL8.out [] (by simp)).mono ?_); rintro e w9 ⟨GA, gc, rfl, ht9, f9⟩; have F9 := Lib.hid (F8.out.trans f9); have HL9 := Lib.hid (HL8.out.fr f9); have HTX9 := Lib.hid (HTX.out.fr f9); have HTG := Lib.hid ht9.inB; clear ht9 f9)
                        | (go_at_call 16; (with_reducible refine (same_self w9 GA T.length gc T rfl HTG.out AX T.length cx T rfl HTX9.out (by have := HTN.out; omega) rfl).mono ?_); rintro e w10 ⟨rfl, f10⟩; have F10 := Lib.hid (F9.out.trans f10); have HL10 := Lib.hid (HL9.out.fr f10); have HTX10 := Lib.hid (HTX9.out.fr f10); clear f10)
                        | (go_at_call 18; (with_reducible refine (last_calls w10 x p lv _ _ _ (lastR_length T) HL10.out.head).mono ?_); rintro e w11 ⟨rfl, f11⟩; have F11 := Lib.hid (F10.out.trans f11); have HTX11 := Lib.hid (HTX10.out.fr f11); clear f11)
                        | (go_at_call 19; (with_reducible refine (last08_calls w11 AX T.length cx T rfl HTX11.out (by have := HTN.out; omega) (fun t ht => by have := HTS.out t ht; omega)).mono ?_); rintro e w12 ⟨rfl, f12⟩; have F12 := Lib.hid (F11.out.trans f12); clear f12)
                        | (refine wpList_wanted (v := .bool true) (by kernel_rfl) (ex_eql_same w12 rfl (lastR T) rfl rfl (lastR_length T)) ?_))
                      go_ret
                      exact ⟨rfl, HC.out.2.2.2.trans F12.out⟩
              · have hz2 : (0 : Int) ≤ z ∧ ¬ z < (L1 : Int) := by omega
                go_upto_region 15 with go_big_skip
                have HC := Lib.hid (And.intro HB0.out (And.intro (own_le HO0.out) (And.intro (own_toRd HO0.out) HFR.out)))
                have hq1 : (L1 : Int).tdiv 64 = (NS : Int) := by rw [HNS.out]; exact tdiv64 NS
                have hq2 : (L1 : Int) / 64 = (NS : Int) := by have := HNS.out; omega
                have hNSI : (0 : Int) ≤ (NS : Int) ∧ (NS : Int) ≤ 70 := by omega
                go_upto_region 18 with (first
                  | go_big_skip
                  | (go_at_call 12; (with_reducible refine (newd_calls _ _ NS (by have := HNS.out; omega) (by omega)).mono ?_); rintro e w5 ⟨p, g, rfl, hp, hgg, hd5, f5⟩; have HP := Lib.hid (And.intro hp hgg); have HD5 := Lib.hid hd5; have HF5 := Lib.hid f5; clear hp hgg hd5 f5))
                go_wp2_with fail
                go_loopg [13] NS (fun gg u wq => ∃ (i : Nat) (s : Dk.DS), i ≤ NS ∧ gg = NS - i ∧ u = .int .i64 (i : Int) ∧ Dk.IsDisk wq p g NS NS s ∧ s.dead = false ∧ s.fuse = -1 ∧ s.writes ≤ i ∧ (∀ j, j < i → secAt s.bs j = secAt b0 j) ∧ Fr [] wr wq)
                case atStart => exact ⟨0, _, by omega, by omega, rfl, HD5.out, rfl, rfl, Nat.zero_le _, fun j h => by omega, HF5.out⟩
                case round =>
                  clear HD5 HF5
                  rename World => wq
                  obtain ⟨i, s, hi, rfl, rfl, hd, hdd, hfu, hwr, hse, hf⟩ := hrel
                  by_cases hlt : i < NS
                  · obtain ⟨A6, hc6, hr6⟩ := ex_cuti A5 L1 c5 i (by have := HNS.out; omega) HC.out.2.1
                    have hrw := hr6 wr b0 HC.out.1 HC.out.2.2.1
                    have hsl : (secAt b0 i).length = 64 := secAt_length (n := NS) (by rw [HC.out.1, HNS.out]) hlt
                    obtain ⟨b6, o6, hA6, hcells⟩ := hrw (by omega)
                    have hb6 : b6 < (wr).heap.size := World.block_lt_of_cell? _ _ (hcells 0 _ (List.getElem?_eq_getElem (by omega)))
                    have HW := Lib.hid (write_n wq p g NS NS s hd (i : Int) A6 64 (c5 - 64 * i) (secAt b0 i) hsl (hrw.fr hf (by simp)) (fun b o h => by
                      rw [hA6] at h
                      injection h with h
                      injection h with h
                      subst h
                      have h1 := HP.out.1
                      have h2 := hf.size
                      exact ⟨by omega, by omega⟩) (by have := HNS.out; have := HC.out.2.1; omega) (by omega) _ _ (wr_go hdd hlt hsl (by omega)))
                    have HSEC := Lib.hid (fun j (hj : j < i + 1) => (show secAt (splice s.bs (i * 64) (secAt b0 i)) j = secAt b0 j from by
                      rw [secAt_whole hd.len hlt hsl]
                      split
                      · rename_i h; rw [h]
                      · exact hse j (by omega)))
                    have HF := Lib.hid hf
                    have HFU := Lib.hid (And.intro hfu hwr)
                    have hltI : (i : Int) < (NS : Int) := by omega
                    have hltN : i < NS := hlt
                    have hiI : (0 : Int) ≤ (i : Int) ∧ (i : Int) ≤ 70 := by omega
                    clear hd hdd hfu hwr hse hf hrw hr6 hcells hA6 hb6 hsl hlt
                    go_wp2_with (go_at_call 13; (with_reducible refine HW.out.mono ?_); rintro e w7 ⟨rfl, hd7, f7⟩; have HD7 := Lib.hid hd7; have HF7 := Lib.hid (HF.out.trans' f7 (fun q hq => .inr (by have h1 := HP.out; rcases List.mem_cons.1 hq with h | h; exact h ▸ h1.1; exact List.mem_singleton.1 h ▸ h1.2))); clear hd7 f7)
                    go_roundg (NS - (i + 1))
                    case measure => omega
                    case rel => exact ⟨i + 1, _, by omega, rfl, by go_num, HD7.out, rfl, by have h1 := HFU.out.1; show (if 0 < s.fuse then s.fuse - 1 else s.fuse) = -1; rw [if_neg (by omega)]; exact h1, Nat.succ_le_succ HFU.out.2, HSEC.out, HF7.out⟩
                  · obtain rfl : NS = i := by omega
                    have hbs : s.bs = b0 := by
                      have h := secs_congr (a := s.bs) (b := b0) (m := NS) (fun j hj => hse j hj)
                      rwa [List.take_of_length_le (by rw [hd.len]; omega), List.take_of_length_le (by rw [HC.out.1, HNS.out]; omega)] at h
                    have hop := open_calls wq p g NS NS s hd hdd [] (by simp)
                    rw [hbs] at hop
                    have HRD := Lib.hid (fun W (f : Fr [] wr W) => read08_calls W A5 L1 c5 NS b0 HC.out.1 HNS.out (by omega) HC.out.2.1 (HC.out.2.2.1.fr f (by simp)))
                    have HF := Lib.hid hf
                    have hnlt : ¬ (NS : Int) < (NS : Int) := by omega
                    have hneq : ∀ (a : Addr) (w : World), (binOp .neq 33 (.pointer (some a)) (.pointer none)).run Try.prog w = .ok (.bool true) w := fun a w => by kernel_rfl
                    have heqn : ∀ (w : World), (binOp .eql 33 (.pointer none) (.pointer none)).run Try.prog w = .ok (.bool true) w := fun w => by kernel_rfl
                    clear hd hdd hfu hwr hse hf hlt
                    cases hR : openR NS b0 with
                    | none =>
                      rw [hR] at hop HRD
                      have HOP := Lib.hid hop
                      clear hop hR
                      go_wp2_with (first
                        | go_big_skip
                        | (go_at_call 14; (with_reducible refine HOP.out.mono ?_); intro e w7 h7; obtain ⟨f7, rfl⟩ := openP_none h7; have F7 := Lib.hid (HF.out.trans f7); clear h7 f7)
                        | (go_at_call 15; (with_reducible refine (HRD.out _ F7.out).mono ?_); intro e w8 h8; obtain ⟨f8, rfl⟩ := readP_none h8; have F8 := Lib.hid (F7.out.trans f8); clear h8 f8))
                      go_ret
                      exact ⟨rfl, HC.out.2.2.2.trans F8.out⟩
                    | some r =>
                      obtain ⟨T, k⟩ := r
                      rw [hR] at hop HRD
                      have HOP := Lib.hid hop
                      clear hop hR
                      go_wp2_with (first
                        | go_big_skip
                        | (go_at_call 14; (with_reducible refine HOP.out.mono ?_); intro e w7 h7; obtain ⟨f7, x, lv, rfl, hl7⟩ := openP_some h7; have F7 := Lib.hid (HF.out.trans f7); have HL7 := Lib.hid hl7; clear h7 f7 hl7)
                        | (go_at_call 15; (with_reducible refine (HRD.out _ F7.out).mono ?_); intro e w8 h8; obtain ⟨f8, AX, cx, rfl, htx, hTn, hTs⟩ := readP_some h8; have F8 := Lib.hid (F7.out.trans f8); have HL8 := Lib.hid (HL7.out.fr f8); have HTX := Lib.hid htx; have HTN := Lib.hid hTn; have HTS := Lib.hid hTs; clear h8 f8 htx hTn hTs)
                        | (go_at_call 17; (with_reducible refine (rec_calls w8 x p g NS NS s lv T k _ _ _ HL8.out [] (by simp)).mono ?_); rintro e w9 ⟨GA, gc, rfl, ht9, f9⟩; have F9 := Lib.hid (F8.out.trans f9); have HL9 := Lib.hid (HL8.out.fr f9); have HTX9 := Lib.hid (HTX.out.fr f9); have HTG := Lib.hid ht9.inB; clear ht9 f9)
                        | (go_at_call 16; (with_reducible refine (same_self w9 GA T.length gc T rfl HTG.out AX T.length cx T rfl HTX9.out (by have := HTN.out; omega) rfl).mono ?_); rintro e w10 ⟨rfl, f10⟩; have F10 := Lib.hid (F9.out.trans f10); have HL10 := Lib.hid (HL9.out.fr f10); have HTX10 := Lib.hid (HTX9.out.fr f10); clear f10)
                        | (go_at_call 18; (with_reducible refine (last_calls w10 x p lv _ _ _ (lastR_length T) HL10.out.head).mono ?_); rintro e w11 ⟨rfl, f11⟩; have F11 := Lib.hid (F10.out.trans f11); have HTX11 := Lib.hid (HTX10.out.fr f11); clear f11)
                        | (go_at_call 19; (with_reducible refine (last08_calls w11 AX T.length cx T rfl HTX11.out (by have := HTN.out; omega) (fun t ht => by have := HTS.out t ht; omega)).mono ?_); rintro e w12 ⟨rfl, f12⟩; have F12 := Lib.hid (F11.out.trans f12); clear f12)
                        | (refine wpList_wanted (v := .bool true) (by kernel_rfl) (ex_eql_same w12 rfl (lastR T) rfl rfl (lastR_length T)) ?_))
                      go_ret
                      exact ⟨rfl, HC.out.2.2.2.trans F12.out⟩
              · obtain ⟨zn, rfl⟩ := Int.eq_ofNat_of_zero_le hz1.1
                have hznl : zn < L1 := by omega
                obtain ⟨gb, cb, tl, hv, hgb, hcb, hblk⟩ := own_gen HO0.out (by omega)
                injection hv with hv1 _ hv3
                subst hv1 hv3
                obtain ⟨t, ht⟩ : ∃ t, b0[zn]? = some t := ⟨b0[zn]'(by have := HB0.out; omega), by simp⟩
                have hcell : wr.cell? ⟨gb, zn, none⟩ = some (.int .u8 (t.toNat : Int)) := by rw [hblk.cell, List.getElem?_toArray, List.getElem?_append_left (by rw [u8s_length, HB0.out]; omega), u8s_get, ht]; rfl
                have hfz := hblk.frozen zn
                have hix := fun w' => ix_sl0 (P := Try.prog) (b := gb) (off := 0) (n := L1) (c := c5) (j := zn) Try.underlying26 Dk.sizeU8 hznl w'
                simp only [Nat.zero_add] at hix
                have HBLK := Lib.hid hblk; have HGC := Lib.hid (And.intro hgb hcb)
                clear hblk hgb hcb ht
                go_upto_region 15 with go_big_skip
                have hset := HBLK.out.set_ zn (.int .u8 (bits .xor .u8 (t.toNat : Int) (y.toNat : Int)))
                rw [xor_byte, u8s_setA _ _ _ (by rw [HB0.out]; exact hznl), ← xor_byte] at hset
                have hF : Fr [] w (wr.setCell ⟨gb, zn, none⟩ (.int .u8 (bits .xor .u8 (t.toNat : Int) (y.toNat : Int)))) := HFR.out.setCell (.inr (by have := HBS.out; have := HGC.out.1; show w.heap.size ≤ gb; omega)) _
                obtain ⟨wc, hwc⟩ : ∃ W, wr.setCell ⟨gb, zn, none⟩ (.int .u8 (bits .xor .u8 (t.toNat : Int) (y.toNat : Int))) = W := ⟨_, rfl⟩
                rw [hwc] at hset hF ⊢
                obtain ⟨A5, hA5⟩ : ∃ x : Option Addr, some (⟨gb, 0, none⟩ : Addr) = x := ⟨_, rfl⟩
                have HC := Lib.hid (show (b0.set zn (t ^^^ y)).length = L1 ∧ L1 ≤ c5 ∧ Rd wc A5 (b0.set zn (t ^^^ y)) ∧ Fr [] w wc from ⟨by rw [List.length_set]; exact HB0.out, HGC.out.2, hA5 ▸ blk_rd hset, hF⟩)
                obtain ⟨b1, hb1⟩ : ∃ b1, b0.set zn (t ^^^ y) = b1 := ⟨_, rfl⟩
                rw [hb1] at HC
                rw [hA5]
                clear hset hF hwc hA5 hb1 hcell hfz hix
                have hq1 : (L1 : Int).tdiv 64 = (NS : Int) := by rw [HNS.out]; exact tdiv64 NS
                have hq2 : (L1 : Int) / 64 = (NS : Int) := by have := HNS.out; omega
                have hNSI : (0 : Int) ≤ (NS : Int) ∧ (NS : Int) ≤ 70 := by omega
                go_upto_region 18 with (first
                  | go_big_skip
                  | (go_at_call 12; (with_reducible refine (newd_calls _ _ NS (by have := HNS.out; omega) (by omega)).mono ?_); rintro e w5 ⟨p, g, rfl, hp, hgg, hd5, f5⟩; have HP := Lib.hid (And.intro hp hgg); have HD5 := Lib.hid hd5; have HF5 := Lib.hid f5; clear hp hgg hd5 f5))
                go_wp2_with fail
                go_loopg [13] NS (fun gg u wq => ∃ (i : Nat) (s : Dk.DS), i ≤ NS ∧ gg = NS - i ∧ u = .int .i64 (i : Int) ∧ Dk.IsDisk wq p g NS NS s ∧ s.dead = false ∧ s.fuse = -1 ∧ s.writes ≤ i ∧ (∀ j, j < i → secAt s.bs j = secAt b1 j) ∧ Fr [] wc wq)
                case atStart => exact ⟨0, _, by omega, by omega, rfl, HD5.out, rfl, rfl, Nat.zero_le _, fun j h => by omega, HF5.out⟩
                case round =>
                  clear HD5 HF5
                  rename World => wq
                  obtain ⟨i, s, hi, rfl, rfl, hd, hdd, hfu, hwr, hse, hf⟩ := hrel
                  by_cases hlt : i < NS
                  · obtain ⟨A6, hc6, hr6⟩ := ex_cuti A5 L1 c5 i (by have := HNS.out; omega) HC.out.2.1
                    have hrw := hr6 wc b1 HC.out.1 HC.out.2.2.1
                    have hsl : (secAt b1 i).length = 64 := secAt_length (n := NS) (by rw [HC.out.1, HNS.out]) hlt
                    obtain ⟨b6, o6, hA6, hcells⟩ := hrw (by omega)
                    have hb6 : b6 < (wc).heap.size := World.block_lt_of_cell? _ _ (hcells 0 _ (List.getElem?_eq_getElem (by omega)))
                    have HW := Lib.hid (write_n wq p g NS NS s hd (i : Int) A6 64 (c5 - 64 * i) (secAt b1 i) hsl (hrw.fr hf (by simp)) (fun b o h => by
                      rw [hA6] at h
                      injection h with h
                      injection h with h
                      subst h
                      have h1 := HP.out.1
                      have h2 := hf.size
                      exact ⟨by omega, by omega⟩) (by have := HNS.out; have := HC.out.2.1; omega) (by omega) _ _ (wr_go hdd hlt hsl (by omega)))
                    have HSEC := Lib.hid (fun j (hj : j < i + 1) => (show secAt (splice s.bs (i * 64) (secAt b1 i)) j = secAt b1 j from by
                      rw [secAt_whole hd.len hlt hsl]
                      split
                      · rename_i h; rw [h]
                      · exact hse j (by omega)))
                    have HF := Lib.hid hf
                    have HFU := Lib.hid (And.intro hfu hwr)
                    have hltI : (i : Int) < (NS : Int) := by omega
                    have hltN : i < NS := hlt
                    have hiI : (0 : Int) ≤ (i : Int) ∧ (i : Int) ≤ 70 := by omega
                    clear hd hdd hfu hwr hse hf hrw hr6 hcells hA6 hb6 hsl hlt
                    go_wp2_with (go_at_call 13; (with_reducible refine HW.out.mono ?_); rintro e w7 ⟨rfl, hd7, f7⟩; have HD7 := Lib.hid hd7; have HF7 := Lib.hid (HF.out.trans' f7 (fun q hq => .inr (by have h1 := HP.out; rcases List.mem_cons.1 hq with h | h; exact h ▸ h1.1; exact List.mem_singleton.1 h ▸ h1.2))); clear hd7 f7)
                    go_roundg (NS - (i + 1))
                    case measure => omega
                    case rel => exact ⟨i + 1, _, by omega, rfl, by go_num, HD7.out, rfl, by have h1 := HFU.out.1; show (if 0 < s.fuse then s.fuse - 1 else s.fuse) = -1; rw [if_neg (by omega)]; exact h1, Nat.succ_le_succ HFU.out.2, HSEC.out, HF7.out⟩
                  · obtain rfl : NS = i := by omega
                    have hbs : s.bs = b1 := by
                      have h := secs_congr (a := s.bs) (b := b1) (m := NS) (fun j hj => hse j hj)
                      rwa [List.take_of_length_le (by rw [hd.len]; omega), List.take_of_length_le (by rw [HC.out.1, HNS.out]; omega)] at h
                    have hop := open_calls wq p g NS NS s hd hdd [] (by simp)
                    rw [hbs] at hop
                    have HRD := Lib.hid (fun W (f : Fr [] wc W) => read08_calls W A5 L1 c5 NS b1 HC.out.1 HNS.out (by omega) HC.out.2.1 (HC.out.2.2.1.fr f (by simp)))
                    have HF := Lib.hid hf
                    have hnlt : ¬ (NS : Int) < (NS : Int) := by omega
                    have hneq : ∀ (a : Addr) (w : World), (binOp .neq 33 (.pointer (some a)) (.pointer none)).run Try.prog w = .ok (.bool true) w := fun a w => by kernel_rfl
                    have heqn : ∀ (w : World), (binOp .eql 33 (.pointer none) (.pointer none)).run Try.prog w = .ok (.bool true) w := fun w => by kernel_rfl
                    clear hd hdd hfu hwr hse hf hlt
                    cases hR : openR NS b1 with
                    | none =>
                      rw [hR] at hop HRD
                      have HOP := Lib.hid hop
                      clear hop hR
                      go_wp2_with (first
                        | go_big_skip
                        | (go_at_call 14; (with_reducible refine HOP.out.mono ?_); intro e w7 h7; obtain ⟨f7, rfl⟩ := openP_none h7; have F7 := Lib.hid (HF.out.trans f7); clear h7 f7)
                        | (go_at_call 15; (with_reducible refine (HRD.out _ F7.out).mono ?_); intro e w8 h8; obtain ⟨f8, rfl⟩ := readP_none h8; have F8 := Lib.hid (F7.out.trans f8); clear h8 f8))
                      go_ret
                      exact ⟨rfl, HC.out.2.2.2.trans F8.out⟩
                    | some r =>
                      obtain ⟨T, k⟩ := r
                      rw [hR] at hop HRD
                      have HOP := Lib.hid hop
                      clear hop hR
                      go_wp2_with (first
                        | go_big_skip
                        | (go_at_call 14; (with_reducible refine HOP.out.mono ?_); intro e w7 h7; obtain ⟨f7, x, lv, rfl, hl7⟩ := openP_some h7; have F7 := Lib.hid (HF.out.trans f7); have HL7 := Lib.hid hl7; clear h7 f7 hl7)
                        | (go_at_call 15; (with_reducible refine (HRD.out _ F7.out).mono ?_); intro e w8 h8; obtain ⟨f8, AX, cx, rfl, htx, hTn, hTs⟩ := readP_some h8; have F8 := Lib.hid (F7.out.trans f8); have HL8 := Lib.hid (HL7.out.fr f8); have HTX := Lib.hid htx; have HTN := Lib.hid hTn; have HTS := Lib.hid hTs; clear h8 f8 htx hTn hTs)
                        | (go_at_call 17; (with_reducible refine (rec_calls w8 x p g NS NS s lv T k _ _ _ HL8.out [] (by simp)).mono ?_); rintro e w9 ⟨GA, gc, rfl, ht9, f9⟩; have F9 := Lib.hid (F8.out.trans f9); have HL9 := Lib.hid (HL8.out.fr f9); have HTX9 := Lib.hid (HTX.out.fr f9); have HTG := Lib.hid ht9.inB; clear ht9 f9)
                        | (go_at_call 16; (with_reducible refine (same_self w9 GA T.length gc T rfl HTG.out AX T.length cx T rfl HTX9.out (by have := HTN.out; omega) rfl).mono ?_); rintro e w10 ⟨rfl, f10⟩; have F10 := Lib.hid (F9.out.trans f10); have HL10 := Lib.hid (HL9.out.fr f10); have HTX10 := Lib.hid (HTX9.out.fr f10); clear f10)
                        | (go_at_call 18; (with_reducible refine (last_calls w10 x p lv _ _ _ (lastR_length T) HL10.out.head).mono ?_); rintro e w11 ⟨rfl, f11⟩; have F11 := Lib.hid (F10.out.trans f11); have HTX11 := Lib.hid (HTX10.out.fr f11); clear f11)
                        | (go_at_call 19; (with_reducible refine (last08_calls w11 AX T.length cx T rfl HTX11.out (by have := HTN.out; omega) (fun t ht => by have := HTS.out t ht; omega)).mono ?_); rintro e w12 ⟨rfl, f12⟩; have F12 := Lib.hid (F11.out.trans f12); clear f12)
                        | (refine wpList_wanted (v := .bool true) (by kernel_rfl) (ex_eql_same w12 rfl (lastR T) rfl rfl (lastR_length T)) ?_))
                      go_ret
                      exact ⟨rfl, HC.out.2.2.2.trans F12.out⟩
            · have hzb : ((L1 : Int).tmod 64 != 0) = true := by
                rw [show (L1 : Int).tmod 64 = ((L1 % 64 : Nat) : Int) from rfl, bne_iff_ne]
                omega
              go_wp2_with (at_builtin; have f5 := (Fr.refl [] wr).alloc (.cells #[.int .u8 ((0 : UInt8).toNat : Int)] 5); refine wpList_app1 rfl (.tmp 48) (.tmp 49) 50 rfl rfl base (.slice A5 L1 c5) (P3 ++ List.replicate k' 0) L1 rfl (own_fr HO.out f5 (by simp)) wr.heap.size 1 0 rfl (Blk.new wr _ _) (by have := HL'.out; omega) (Nat.le_trans HZ.out f5.size) ?_; intro v' w' ho' f'; obtain ⟨A', c', rfl⟩ := own_slice ho'; have HF' := Lib.hid ((HFR.out.trans f5).trans' f' (fun q hq => .inr (Nat.le_trans HBS.out (HO.out.lt q (by simpa using hq)).1))); have HZ' := Lib.hid (Nat.le_trans (Nat.le_trans HZ.out f5.size) f'.size); have HO' := Lib.hid ho'; clear ho' f' f5)
              go_roundg (64 - (k' + 1))
              case measure => omega
              case rel => exact ⟨k' + 1, L1 + 1, A', c', by have := HL'.out; omega, rfl, by have := HL'.out; omega, rfl, by rw [List.replicate_succ', ← List.append_assoc]; exact HO'.out, HF'.out, HZ'.out⟩
end Go.Proofs.Ytmmjihkcofgmmaa

/- WalReads: for every list of texts, every place, every byte and every further bytes the law returns true, and the arguments read behind the call as before; no condition. -/
namespace Go.Proofs.Ytmmjihkcofgmmaa.walReads
open Go.ChangeShapes Go.WideShapes Go.ChangeAt Go.RowKit
open Go.ChangeMaps (open_string shut_string)
set_option linter.unusedVariables false

theorem own : ownKnob Try.prog.godebug = none := by kernel_rfl
theorem laidOut : laidOutB Try.prog = true := by kernel_rfl


set_option maxRecDepth 100000 in
theorem opened {H : Type} {enc : TypeId × Value → H} (W : World) (base : Nat) (v0 v1 v2 v3 : Value) (d0 d1 d2 d3 : DataW H) (p0 p1 p2 p3 : List MemPlace)
    (vl0 : Value.okWide Try.prog W .any base 25 v0) (h0 : DataW.Trod enc Try.prog W 0 (fun _ => true) true 25 v0 d0 p0)
    (vl1 : Value.okWide Try.prog W .any base 3 v1) (h1 : DataW.Trod enc Try.prog W 0 (fun _ => true) true 3 v1 d1 p1)
    (vl2 : Value.okWide Try.prog W .any base 5 v2) (h2 : DataW.Trod enc Try.prog W 0 (fun _ => true) true 5 v2 d2 p2)
    (vl3 : Value.okWide Try.prog W .any base 26 v3) (h3 : DataW.Trod enc Try.prog W 0 (fun _ => true) true 26 v3 d3 p3) :
    Calls Try.prog 4 #[v0, v1, v2, v3] W fun e W' => e = .returned (.bool true) ∧ Below W.heap.size W W' := by
  obtain ⟨A, l, ca, rfl, hl, _, hA, hlx⟩ := open_texts Try.underlying25 Try.underlying26 Try.underlying5 (by kernel_rfl) (by kernel_rfl) vl0 h0
  obtain ⟨z, rfl, rfl, rfl, wz⟩ := open_int Try.underlying3 vl1 h1
  obtain ⟨a, rfl, rfl, rfl, wa⟩ := open_int Try.underlying5 vl2 h2
  obtain ⟨y, rfl⟩ := byte_n wa
  obtain ⟨B, b, cb, rfl, hb, hcb, hB⟩ := open_bytesV Try.underlying26 Try.underlying5 (by kernel_rfl) vl3 h3
  exact (reads_walk08 W A _ ca l rfl hA hl hlx z (wf_i64 wz) y B _ cb b rfl hb hB (by omega)).mono fun e W' ⟨he, hf⟩ => ⟨he, hf.below (Nat.le_refl _) (by simp)⟩

set_option maxRecDepth 100000 in
theorem lifted (os : Os) (started : os.Started) (H : Type) (enc : TypeId × Value → H) :
    ReturnsInHanded {} Try.checked os 4 .any (Rows.walReadsSpec.pre6 enc Try.prog Try.f4 Rows.walReadsRow.domain false) (Rows.walReadsSpec.post enc Try.prog Try.f4 false true false false) := by
  refine returnsInHanded_of_change (C := Try.checked) own started (by kernel_rfl) Try.func4
    (ChangeSpec.witness6 (enc := enc) (C := Try.checked) false ⟨#[], #[.slice none 0 0, .int .i64 0, .int .u8 0, .slice none 0 0], []⟩ 8 (by kernel_rfl) (by kernel_rfl) (by kernel_rfl) (by kernel_rfl)) ?_
  intro W base args ds gs before hval0 hW hcnd _
  have hval : ∀ (j : Nat) t v, Try.f4.params[j]? = some t → args[j]? = some v → Value.okWide Try.prog W .any base t v := hval0
  have hW' := hW
  obtain ⟨p, q, hA0, hV, rfl, hfz, hnd⟩ := hW
  have hA : DataW.TrodAll enc Try.prog W 0 (fun _ => true) true Try.f4.params.toList args.toList ds p := hA0
  rw [Try.params4] at hA hval
  obtain ⟨v0, vs0, d0, ds0, p0, q0, hargs, rfl, rfl, h0, r0⟩ := trodAll_cons hA
  obtain ⟨v1, vs1, d1, ds1, p1, q1, rfl, rfl, rfl, h1, r1⟩ := trodAll_cons r0
  obtain ⟨v2, vs2, d2, ds2, p2, q2, rfl, rfl, rfl, h2, r2⟩ := trodAll_cons r1
  obtain ⟨v3, vs3, d3, ds3, p3, q3, rfl, rfl, rfl, h3, r3⟩ := trodAll_cons r2
  obtain ⟨rfl, rfl, rfl⟩ := trodAll_nil r3
  obtain rfl : args = #[v0, v1, v2, v3] := by cases args; simp_all
  obtain ⟨rfl, rfl⟩ := trodVars_none hV
  have lt0 : ∀ x ∈ p0, x.block < W.heap.size := by obtain ⟨m, hm⟩ := h0; exact DataW.trod_lt m _ _ _ hm
  have lt1 : ∀ x ∈ p1, x.block < W.heap.size := by obtain ⟨m, hm⟩ := h1; exact DataW.trod_lt m _ _ _ hm
  have lt2 : ∀ x ∈ p2, x.block < W.heap.size := by obtain ⟨m, hm⟩ := h2; exact DataW.trod_lt m _ _ _ hm
  have lt3 : ∀ x ∈ p3, x.block < W.heap.size := by obtain ⟨m, hm⟩ := h3; exact DataW.trod_lt m _ _ _ hm
  refine (opened W base v0 v1 v2 v3 d0 d1 d2 d3 p0 p1 p2 p3 (hval 0 25 v0 rfl rfl) h0 (hval 1 3 v1 rfl rfl) h1 (hval 2 5 v2 rfl rfl) h2 (hval 3 26 v3 rfl rfl) h3).mono fun e W' ⟨he, bel⟩ => ?_
  subst he
  exact ⟨_, rfl, _, _, _, [], _, [], hW', trodAll_mk1 (shut_bool Try.underlying4 _), (trodAll_cons_mk (Below.trod laidOut (by kernel_rfl) (of_decide_eq_true (by kernel_rfl)) h0 bel lt0) (trodAll_cons_mk (Below.trod laidOut (by kernel_rfl) (of_decide_eq_true (by kernel_rfl)) h1 bel lt1) (trodAll_cons_mk (Below.trod laidOut (by kernel_rfl) (of_decide_eq_true (by kernel_rfl)) h2 bel lt2) (trodAll_cons_mk (Below.trod laidOut (by kernel_rfl) (of_decide_eq_true (by kernel_rfl)) h3 bel lt3) trodAll_mk0)))), rfl, bel.frame _, fun h => by cases h⟩

theorem over : Rows.walReadsRow.holds Try.pinned (OpenSpec.ofChange Rows.walReadsSpec) :=
  OpenClaim.holds_of_wide 4 Try.f4 rfl rfl rfl rfl rfl rfl rfl ⟨rfl, rfl, rfl, rfl, rfl⟩ rfl rfl rfl rfl rfl (by kernel_rfl) Try.func4 (by kernel_rfl)
    (of_decide_eq_true (by kernel_rfl)) (by unfold Func.isWrapper; first | (rw [if_pos (by decide +kernel)]; kernel_rfl) | (rw [if_neg (by decide +kernel)]; exact ⟨rfl, rfl⟩))
    (fun os started H enc _ => lifted os started H enc)

/-- THE STATEMENT. -/
theorem proved : Rows.WalReadsSaid := over
#print axioms proved
end Go.Proofs.Ytmmjihkcofgmmaa.walReads
