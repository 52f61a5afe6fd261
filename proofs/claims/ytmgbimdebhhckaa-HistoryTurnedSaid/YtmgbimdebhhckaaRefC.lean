/- Preimages, the document's. -/
import Derived.Test.YtmgbimdebhhckaaRefB
import Derived.Test.YtmgbimdebhhckaaShaI
namespace Go.Proofs.Ytmgbimdebhhckaa
open Go.RowKit
set_option linter.unusedVariables false

theorem eight_byteM (m j : Nat) (hj : j < 8) : ((m : Int) / 2 ^ (56 - 8 * j)).tmod 256 % 256 = ((UInt8.ofNat (m / 256 ^ (7 - j))).toNat : Int) := by
  have h := eight_byte m j hj
  have h0 : (0 : Int) ≤ (m : Int) / 2 ^ (56 - 8 * j) := Int.ediv_nonneg (by omega) (Int.le_of_lt (Int.pow_pos (by omega)))
  rw [Int.tmod_eq_emod_of_nonneg h0, ← h]
  omega
set_option maxHeartbeats 4000000 in
theorem rpre_calls (w : World) (tag : UInt8) (TA : Option Addr) (n c : Nat) (ts : List (List UInt8)) (hn : ts.length = n) (hT : TxIn w TA ts) (hbd : (preB tag ts).length ≤ 100000000) (hnb : n ≤ 100000000) :
    Calls Try.prog 27 #[.int .u8 (tag.toNat : Int), .slice TA n c] w (OwnB w (preB tag ts)) := by
  have HT := Lib.hid hT; have HN := Lib.hid hn
  have HO0 := Lib.hid (own_one w w.heap.size (Nat.le_refl _) tag)
  have HF0 := Lib.hid ((Fr.refl [] w).alloc (.cells #[u8v tag] 5))
  have hnI : (n : Int) ≤ 100000000 := by omega
  clear hT hn
  go_enter Try.func27, Try.ntmps27
  go_wp2_with fail
  go_loopg [5, 6] n (fun gg v u wr => ∃ (k g c' : Nat), k ≤ n ∧ gg = n - k ∧ u = .int .i64 k ∧ v = .slice (some ⟨g, 0, none⟩) (preB tag (ts.take k)).length c' ∧
    wr.ownsRow w.heap.size 5 1 (.slice (some ⟨g, 0, none⟩) (preB tag (ts.take k)).length c') (preB tag (ts.take k)).length (u8s (preB tag (ts.take k))) ∧ Fr [] w wr)
  case atStart => exact ⟨0, w.heap.size, 1, by omega, by omega, rfl, rfl, HO0.out, HF0.out⟩
  case round =>
    obtain ⟨k, g, c', hk, rfl, rfl, rfl, ho, hf⟩ := hrel
    have HO := Lib.hid ho; have HF := Lib.hid hf
    clear ho hf
    by_cases hlt : k < n
    · obtain ⟨t, ht⟩ : ∃ t, ts[k]? = some t := ⟨ts[k]'(by have := HN.out; omega), by simp⟩
      obtain ⟨b, off, A, ct, hA, hbw, hc0, hr⟩ := HT.out k t ht
      subst hA
      have hc : wr.cell? ⟨b, off + k, none⟩ = some (.slice A t.length ct) := by rw [HF.out.cell (p := ⟨b, off + k, none⟩) hbw (by simp)]; exact hc0
      have hstep := preB_step tag ts k t ht
      have hle := preB_take_le tag ts (k + 1)
      rw [← hstep] at hle
      have hix := fun w' => ix_sl0 (P := Try.prog) (b := b) (off := off) (n := n) (c := c) Try.underlying37 size_sl hlt w'
      obtain ⟨L, hL⟩ : ∃ L, (preB tag (ts.take k)).length = L := ⟨_, rfl⟩
      obtain ⟨m, hm⟩ : ∃ m, t.length = m := ⟨_, rfl⟩
      rw [hm] at hc hc0
      have HC0 := Lib.hid hc0; have HBW := Lib.hid hbw
      rw [List.length_append, List.length_append, eightB_length, hL, hm] at hle
      rw [hL]
      have HO1 := Lib.hid HO.out
      rw [hL] at HO1
      have hmI : (m : Int) ≤ 100000000 := by omega
      have HSTEP := Lib.hid hstep; have HM := Lib.hid hm; have HL := Lib.hid hL; have HR := Lib.hid hr
      have hkI : (0 : Int) ≤ (k : Int) ∧ (k : Int) < (n : Int) := by omega
      have hLm : L + 8 + m ≤ 100000000 := by omega
      clear hstep hm hL hr ht hle hbw hc0
      go_wp2_with fail
      obtain ⟨wo, rfl⟩ : ∃ wo : World, wo = wr := ⟨_, rfl⟩
      go_loopg [5, 8] 8 (fun gg v u wr => ∃ (j g c' : Nat), j ≤ 8 ∧ gg = 8 - j ∧ u = .int .i64 j ∧ v = .slice (some ⟨g, 0, none⟩) (L + j) c' ∧
        wr.ownsRow w.heap.size 5 1 (.slice (some ⟨g, 0, none⟩) (L + j) c') (L + j) (u8s (preB tag (ts.take k) ++ (eightB m).take j)) ∧ Fr [] w wr)
      case atStart => exact ⟨0, g, c', by omega, by omega, rfl, rfl, by simpa using HO1.out, HF.out⟩
      case round =>
        obtain ⟨j, g, c', hj, rfl, rfl, rfl, ho, hf⟩ := hrel
        have JO := Lib.hid ho; have JF := Lib.hid hf
        clear ho hf hc
        by_cases hlj : j < 8
        · have HY := Lib.hid (eight_byteM m j hlj)
          obtain ⟨y, hy⟩ : ∃ y, UInt8.ofNat (m / 256 ^ (7 - j)) = y := ⟨_, rfl⟩
          rw [hy] at HY
          have HE := Lib.hid hy
          have hjI : (0 : Int) ≤ (j : Int) ∧ (j : Int) < 8 := by omega
          have hMj : L + j + 1 ≤ 1000000000 := by omega
          have JO1 := Lib.hid (JO.out.alloc (.cells #[u8v y] 5))
          have JF1 := Lib.hid (JF.out.alloc (.cells #[u8v y] 5))
          have JG1 := Lib.hid (ownB_at JO.out).2.1
          clear hy
          go_wp2_with (at_builtin; rw [HY.out]; refine growU8 rfl (.tmp 27) (.tmp 36) rfl w.heap.size _ (L + j) _ (preB tag (ts.take k) ++ (eightB m).take j) rfl JO1.out _ 1 1 [y] rfl rfl (rd_one wr y _) hMj JF1.out.size ?_; intro g3 c3 w5 ho3 hf3; have JO2 := Lib.hid ho3; have JF2 := Lib.hid (JF1.out.trans' hf3 (fun x hx => by simp at hx; subst hx; exact .inr JG1.out)); clear ho3 hf3)
          go_roundg (8 - (j + 1))
          case measure => omega
          case rel =>
            have e := eightB_step m j hlj
            rw [HE.out] at e
            have ho := JO2.out
            rw [List.append_assoc, e] at ho
            exact ⟨j + 1, _, _, by omega, rfl, by go_num, rfl, ho, JF2.out⟩
        · obtain rfl : j = 8 := by omega
          have JO8 := Lib.hid JO.out
          rw [List.take_of_length_le (show (eightB m).length ≤ 8 by rw [eightB_length]; omega)] at JO8
          have hc : wr.cell? ⟨b, off + k, none⟩ = some (.slice A m ct) := by rw [JF.out.cell (p := ⟨b, off + k, none⟩) HBW.out (by simp)]; exact HC0.out
          have HRT := Lib.hid (HR.out.fr JF.out (by simp))
          have HSZ := Lib.hid JF.out.size
          have hb9 : L + 8 + m ≤ 1000000000 := by omega
          go_wp2_with (at_builtin; refine growU8 rfl (.tmp 38) (.tmp 42) rfl w.heap.size _ (L + 8) _ (preB tag (ts.take k) ++ eightB m) rfl JO8.out A m ct t rfl HM.out HRT.out hb9 HSZ.out ?_; intro g8 c8 w8 ho8 hf8; have HO8 := Lib.hid ho8; have HF8 := Lib.hid (JF.out.trans' hf8 (fun x hx => by simp at hx; subst hx; exact .inr (ownB_at JO8.out).2.1)); clear ho8 hf8)
          go_roundg (n - (k + 1))
          case measure => omega
          case rel =>
            have e := HSTEP.out
            rw [HM.out] at e
            have el : (preB tag (ts.take (k + 1))).length = L + 8 + m := by rw [← e, List.length_append, List.length_append, eightB_length, HL.out, HM.out]
            have ho := HO8.out
            rw [e] at ho
            exact ⟨k + 1, g8, c8, by omega, rfl, by go_num, by rw [el], by rw [el]; exact ho, HF8.out⟩
    · obtain rfl : k = n := by omega
      go_wp2_with fail
      go_ret
      have e : ts.take k = ts := List.take_of_length_le (by have := HN.out; omega)
      have ho := HO.out
      rw [e] at ho ⊢
      exact OwnB.mk' ho HF.out
end Go.Proofs.Ytmgbimdebhhckaa
