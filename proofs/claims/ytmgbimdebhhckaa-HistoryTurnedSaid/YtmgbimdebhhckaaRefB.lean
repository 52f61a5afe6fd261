/- SHA-256, the document's: With, Sum. -/
import Derived.Test.YtmgbimdebhhckaaRefA
namespace Go.Proofs.Ytmgbimdebhhckaa
open Go.RowKit

def WordsT (w : World) (e : Ending) (w' : World) : Prop := ∃ g, e = .returned (.slice (some ⟨g, 0, none⟩) 64 64) ∧ Blk w' g 68 (u32s Kw).toArray ∧ Fr [] w w'
set_option maxRecDepth 100000 in
theorem words_calls (w : World) : Calls Try.prog 40 #[] w (WordsT w) := by
  go_enter Try.func40, Try.ntmps40
  go_wp2_with (refine wpList_val (o := ⟨some 1, _, _, _, _, _⟩) rfl (.slice (some ⟨w.heap.size, 0, none⟩) 64 64) (w.alloc (.cells (u32s Kw).toArray 68)) (by kernel_rfl) ?_)
  go_ret
  exact ⟨_, rfl, Blk.new _ _ _, (Fr.refl _ _).alloc _⟩
theorem rd_mid {w : World} {g : Nat} {l : List UInt8} {tl : List Value} {t : TypeId} (h : Blk w g t (u8s l ++ tl).toArray) (k : Nat) : Rd w (some ⟨g, k, none⟩) (l.drop k) := fun _ => ⟨g, k, rfl, fun j x hx => by
  rw [List.getElem?_drop] at hx
  have hj : k + j < l.length := (List.getElem?_eq_some_iff.1 hx).1
  rw [h.cell, List.getElem?_toArray, List.getElem?_append_left (by simpa using hj), u8s_get, hx]; rfl⟩
theorem rdU_blk {w : World} {g : Nat} {l : List UInt32} {tl : List Value} {t : TypeId} (h : Blk w g t (u32s l ++ tl).toArray) : RdU w (some ⟨g, 0, none⟩) l := fun _ => ⟨g, 0, rfl, fun j x hx => by
  have hj : j < l.length := (List.getElem?_eq_some_iff.1 hx).1
  rw [h.cell, Nat.zero_add, List.getElem?_toArray, List.getElem?_append_left (by simpa using hj), u32s_get, hx]; rfl⟩
/-- the first i bytes of the digits -/
def digQ (V : V8) (i : Nat) : List UInt8 := (digB V).take i ++ List.replicate (32 - i) 0
theorem digQ_zero (V : V8) : digQ V 0 = List.replicate 32 0 := by simp [digQ]
theorem digQ_all (V : V8) : digQ V 32 = digB V := by unfold digQ; rw [List.take_of_length_le (by simp [digB])]; simp
theorem digQ_step (V : V8) (i : Nat) (hi : i < 32) : (digQ V i).set i (UInt8.ofNat ((V.l.getD (i / 4) 0).toNat / 256 ^ (3 - i % 4))) = digQ V (i + 1) := by
  have hd := digB_length V
  unfold digQ
  rw [List.set_append, if_neg (by rw [List.length_take, hd]; omega), List.length_take, hd, Nat.min_eq_left (by omega), Nat.sub_self, show 32 - i = (32 - (i + 1)) + 1 by omega, List.replicate_succ, List.set_cons_zero,
    List.take_succ_eq_append_getElem (by rw [hd]; exact hi)]
  simp [digB]
theorem dig_byteR (x m : Nat) (hm : m < 4) : ((x : Int) / 2 ^ (24 - 8 * m)).tmod 256 % 256 = ((UInt8.ofNat (x / 256 ^ (3 - m))).toNat : Int) := by
  have e : (2 : Nat) ^ (24 - 8 * m) = 256 ^ (3 - m) := by
    rw [show (256 : Nat) = 2 ^ 8 from rfl, ← Nat.pow_mul]; congr 1; omega
  have e2 : ((2 : Int) ^ (24 - 8 * m)) = ((256 ^ (3 - m) : Nat) : Int) := by rw [← e]; simp
  have h0 : (0 : Int) ≤ (x : Int) / 2 ^ (24 - 8 * m) := Int.ediv_nonneg (by omega) (Int.le_of_lt (Int.pow_pos (by omega)))
  rw [Int.tmod_eq_emod_of_nonneg h0, e2, UInt8.toNat_ofNat']
  omega
theorem padK_testN (N k : Nat) (hk : k ≤ padK N) : (N + 1 + k) % 64 = 56 ↔ k = padK N := by
  unfold padK at *
  omega
theorem pad_mod (N : Nat) : (N + 1 + padK N + 8) % 64 = 0 := by unfold padK; omega
theorem eight_byteR (N j : Nat) (hj : j < 8) : (8 * (N : Int) / 2 ^ (56 - 8 * j)).tmod 256 % 256 = ((UInt8.ofNat (8 * N / 256 ^ (7 - j))).toNat : Int) := by
  have h := eight_byte (8 * N) j hj
  rw [show ((8 * N : Nat) : Int) = 8 * (N : Int) by omega] at h
  have h0 : (0 : Int) ≤ 8 * (N : Int) / 2 ^ (56 - 8 * j) := Int.ediv_nonneg (by omega) (Int.le_of_lt (Int.pow_pos (by omega)))
  rw [Int.tmod_eq_emod_of_nonneg h0, ← h]
  omega
set_option maxHeartbeats 8000000 in
set_option maxRecDepth 100000 in
theorem with_calls (w : World) (A : Option Addr) (N c : Nat) (t : List UInt8) (hN : t.length = N) (hA : Rd w A t) (hbd : N ≤ 100000000) (KA : Option Addr) (kc : Nat) (hK : RdU w KA Kw) :
    Calls Try.prog 39 #[.slice A N c, .slice KA 64 kc] w (Agg (.agg (u8s (shaB t)).toArray) w) := by
  have HN := Lib.hid hN
  have hf0 := (Fr.refl [] w).alloc (.cells (zs 32).toArray 25)
  obtain ⟨W0, hW0⟩ : ∃ W0, w.alloc (.cells (zs 32).toArray 25) = W0 := ⟨_, rfl⟩
  have hbr := Blk.new w 25 (zs 32).toArray
  rw [hW0] at hf0 hbr
  have HA := Lib.hid (hA.fr hf0 (by simp)); have HK := Lib.hid hK; have HF0 := Lib.hid hf0; have HBR := Lib.hid hbr
  have hb1 : N ≤ 1000000000 := by omega
  have hb2 : N + 1 ≤ 1000000000 := by omega
  have hbI : (N : Int) ≤ 100000000 := by omega
  have HW0 := Lib.hid hW0
  clear hN hA hK hf0 hbr hW0
  go_enter Try.func39, Try.ntmps39
  go_upto_region 1 with (refine wpList_alloc_agg rfl 25 rfl (zs 32).toArray arr32_zero ?_)
  rw [HW0.out]
  go_upto_region 2 with (first
    | (at_builtin; refine copyU8 rfl (.tmp 12) (.tmp 13) rfl W0 _ rfl rfl rfl A N c t rfl HN.out HA.out hb1 ?_; intro g1 c1 w3 ho1 hf1; have HO1 := Lib.hid (ho1.alloc (.cells #[.int .u8 128] 5)); have HF1 := Lib.hid (hf1.alloc (.cells #[.int .u8 128] 5)); have HG1 := Lib.hid (ownB_at ho1).2.1; clear ho1 hf1)
    | (at_builtin; refine growU8 rfl (.tmp 14) (.tmp 15) rfl W0.heap.size _ N _ t rfl HO1.out _ 1 1 [128] rfl rfl (rd_128 w3 _) hb2 HF1.out.size ?_; intro g2 c2 w4 ho2 hf2; have HO2 := Lib.hid ho2; have HF2 := Lib.hid (HF1.out.trans' hf2 (fun x hx => by simp at hx; subst hx; exact .inr HG1.out)); clear ho2 hf2))
  have HO3 := Lib.hid (show w4.ownsRow W0.heap.size 5 1 (.slice (some ⟨g2, 0, none⟩) (N + 1 + 0) c2) (N + 1 + 0) (u8s (t ++ 128 :: List.replicate 0 0)) from HO2.out)
  clear HO1 HF1 HG1 HO2
  obtain ⟨K, hK⟩ : ∃ K, padK N = K := ⟨_, rfl⟩
  have hK64 : K < 64 := hK ▸ padK_lt N
  have HKE := Lib.hid hK
  clear hK
  go_loopg [5] K (fun gg v wr => ∃ (k g c' : Nat), k ≤ K ∧ gg = K - k ∧ v = .slice (some ⟨g, 0, none⟩) (N + 1 + k) c' ∧ wr.ownsRow W0.heap.size 5 1 (.slice (some ⟨g, 0, none⟩) (N + 1 + k) c') (N + 1 + k) (u8s (t ++ 128 :: List.replicate k 0)) ∧ Fr [] W0 wr)
  case atStart => exact ⟨0, _, _, by omega, by omega, rfl, HO3.out, HF2.out⟩
  case round =>
    obtain ⟨k, g, c', hk, rfl, rfl, ho, hf⟩ := hrel
    have HO := Lib.hid ho; have HF := Lib.hid hf
    clear ho hf
    obtain ⟨M, hM⟩ : ∃ M, N + 1 + k = M := ⟨_, rfl⟩
    have HMM := Lib.hid hM
    have hM0 : (0 : Int) ≤ (M : Int) := by omega
    have hMb : (M : Int) ≤ 100000100 := by omega
    have hMb1 : M + 1 ≤ 1000000000 := by omega
    have hte := padK_testN N k (by rw [HKE.out]; exact hk)
    rw [HKE.out, hM] at hte
    rw [hM]
    by_cases hlt : k = K
    · have htI : ((M : Int) % 64 == 56) = true := by rw [beq_iff_eq]; have := hte.2 hlt; omega
      have htJ : ((M : Int) % 64 != 56) = false := by rw [bne_eq_false_iff_eq]; have := hte.2 hlt; omega
      subst hlt
      have HO4 := Lib.hid HO.out
      rw [hM] at HO4
      clear hM hte
      go_upto_region 6 with fail
      obtain ⟨wo, rfl⟩ : ∃ wo : World, wo = wr := ⟨_, rfl⟩
      obtain ⟨base, hbase⟩ : ∃ x, t ++ 128 :: List.replicate k 0 = x := ⟨_, rfl⟩
      rw [hbase] at HO4
      have HBASE := Lib.hid hbase
      clear hbase HO
      go_loopg [5, 7] 8 (fun gg v u wr => ∃ (j g c' : Nat), j ≤ 8 ∧ gg = 8 - j ∧ u = .int .i64 j ∧ v = .slice (some ⟨g, 0, none⟩) (M + j) c' ∧ wr.ownsRow W0.heap.size 5 1 (.slice (some ⟨g, 0, none⟩) (M + j) c') (M + j) (u8s (base ++ (eightB (8 * N)).take j)) ∧ Fr [] W0 wr)
      case atStart => exact ⟨0, g, c', by omega, by omega, rfl, rfl, by simpa using HO4.out, HF.out⟩
      case round =>
        obtain ⟨j, g, c', hj, rfl, rfl, rfl, ho, hf⟩ := hrel
        have JO := Lib.hid ho; have JF := Lib.hid hf
        clear ho hf
        by_cases hlj : j < 8
        · have HY := Lib.hid (eight_byteR N j hlj)
          obtain ⟨y, hy⟩ : ∃ y, UInt8.ofNat (8 * N / 256 ^ (7 - j)) = y := ⟨_, rfl⟩
          rw [hy] at HY
          have HE := Lib.hid hy
          have hjI : (0 : Int) ≤ (j : Int) ∧ (j : Int) < 8 := by omega
          have hMj : M + j + 1 ≤ 1000000000 := by omega
          have JO1 := Lib.hid (JO.out.alloc (.cells #[u8v y] 5))
          have JF1 := Lib.hid (JF.out.alloc (.cells #[u8v y] 5))
          have JG1 := Lib.hid (ownB_at JO.out).2.1
          clear hy htI htJ
          go_wp2_with (at_builtin; rw [HY.out]; refine growU8 rfl (.tmp 32) (.tmp 41) rfl W0.heap.size _ (M + j) _ (base ++ (eightB (8 * N)).take j) rfl JO1.out _ 1 1 [y] rfl rfl (rd_one wr y _) hMj JF1.out.size ?_; intro g3 c3 w5 ho3 hf3; have JO2 := Lib.hid ho3; have JF2 := Lib.hid (JF1.out.trans' hf3 (fun x hx => by simp at hx; subst hx; exact .inr JG1.out)); clear ho3 hf3)
          go_roundg (8 - (j + 1))
          case measure => omega
          case rel =>
            have e := eightB_step (8 * N) j hlj
            rw [HE.out] at e
            have ho := JO2.out
            rw [List.append_assoc, e] at ho
            exact ⟨j + 1, _, _, by omega, rfl, by go_num, rfl, ho, JF2.out⟩
        · obtain rfl : j = 8 := by omega
          obtain ⟨hlen7, hg7, hc7, hcm7, tl7, hblk7⟩ := ownB_at JO.out
          have haE : base ++ (eightB (8 * N)).take 8 = padB t := by
            rw [← HBASE.out, List.take_of_length_le (by rw [eightB_length]; omega)]
            unfold padB tailB
            rw [HN.out, HKE.out]
            simp
          rw [haE] at hlen7 hblk7
          obtain ⟨all, hall⟩ : ∃ all, padB t = all := ⟨_, rfl⟩
          rw [hall] at hlen7 hblk7
          obtain ⟨T, hT⟩ : ∃ T, M + 8 = T := ⟨_, rfl⟩
          rw [hT] at hlen7 hc7 ⊢
          have hT64 : T % 64 = 0 := by
            have h1 := pad_mod N
            have h2 := HKE.out
            have h3 := HMM.out
            omega
          obtain ⟨Q, hQ⟩ : ∃ Q, T = 64 * Q := ⟨T / 64, by omega⟩
          have hTb : (T : Int) ≤ 100001000 := by omega
          have hTI : (0 : Int) ≤ (T : Int) := by omega
          have HALL := Lib.hid hall; have HLEN := Lib.hid hlen7; have HQ := Lib.hid hQ; have HB7 := Lib.hid hblk7; have HG7 := Lib.hid hg7
          have HFF := Lib.hid JF.out
          have R0 := Lib.hid (HBR.out.fr HFF.out (by simp)); have RF := Lib.hid (HF0.out.trans HFF.out)
          have hc7I : (T : Int) ≤ (c' : Int) := by omega
          clear hT64 hall hlen7 hblk7 haE hT hQ hg7 hcm7 JO JF HO4 HF htI htJ
          obtain ⟨wo4, rfl⟩ : ∃ wo4 : World, wo4 = wr := ⟨_, rfl⟩
          go_upto_region 11 with (refine wpList_val (o := ⟨some 43, _, _, _, _, _⟩) rfl (.slice (some ⟨wo4.heap.size, 0, none⟩) 8 8) (wo4.alloc (.cells (u32s H0.l).toArray 68)) (by kernel_rfl) ?_)
          change Code.wp _ _ _ _ (wo4.alloc (.cells (u32s H0.l).toArray 68))
          have hbh := Blk.new wo4 68 (u32s H0.l).toArray
          have hb8 := HB7.out.alloc (.cells (u32s H0.l).toArray 68)
          have hr8 := R0.out.alloc (.cells (u32s H0.l).toArray 68)
          have hf8 := RF.out.alloc (.cells (u32s H0.l).toArray 68)
          have HBH := Lib.hid (show Blk _ _ _ (u32s H0.l ++ []).toArray by rw [List.append_nil]; exact hbh)
          have HB8 := Lib.hid hb8; have HR8 := Lib.hid hr8; have HF8 := Lib.hid hf8
          clear hbh hb8 hr8 hf8
          go_loopg [8, 9] Q (fun gg v u wr => ∃ (q gh ch : Nat) (tl : List Value), q ≤ Q ∧ gg = Q - q ∧ u = .int .i64 (64 * (q : Int)) ∧ v = .slice (some ⟨gh, 0, none⟩) 8 ch ∧ 8 ≤ ch ∧ Blk wr gh 68 (u32s (turnN H0 all q).l ++ tl).toArray ∧
            Blk wr g 5 (u8s all ++ tl7).toArray ∧ Blk wr w.heap.size 25 (zs 32).toArray ∧ Fr [] w wr)
          case atStart => exact ⟨0, _, 8, [], by omega, by omega, rfl, rfl, by omega, HBH.out, HB8.out, HR8.out, HF8.out⟩
          case round =>
            obtain ⟨q, gh, ch, tl, hq, rfl, rfl, rfl, hch, hbh, hba, hbr, hf⟩ := hrel
            have K1 := Lib.hid hbh; have K2 := Lib.hid hba; have K3 := Lib.hid hbr; have K4 := Lib.hid hf; have KC := Lib.hid hch
            have hqe := HQ.out
            by_cases hlq : q < Q
            · have hqI : 64 * (q : Int) < (T : Int) := by omega
              have hq0 : (0 : Int) ≤ 64 * (q : Int) := by omega
              have hq64 : 64 * (q : Int) + 64 ≤ (T : Int) := by omega
              have hqc : 64 * (q : Int) + 64 ≤ (c' : Int) := by omega
              obtain ⟨VK, hVK⟩ : ∃ x, turnN H0 all q = x := ⟨_, rfl⟩
              rw [hVK] at K1
              obtain ⟨VN, hVN⟩ : ∃ x, turnF VK ((all.drop (64 * q)).take 64) = x := ⟨_, rfl⟩
              have hb64 : ((all.drop (64 * q)).take 64).length = 64 := by rw [List.length_take, List.length_drop, HLEN.out]; omega
              have ht := rturn_calls wr VK (some ⟨gh, 0, none⟩) ch (rdU_blk K1.out) (some ⟨g, 64 * q, none⟩) (c' - 64 * q) _ hb64 ((rd_mid K2.out (64 * q)).take 64) KA kc (HK.out.fr K4.out (by simp))
              rw [hVN] at ht
              have HT := Lib.hid ht; have HVK := Lib.hid hVK; have HVN := Lib.hid hVN
              clear hbh hba hbr hf hch hqe hVK hVN hb64 ht
              go_wp2_with (go_at_call 50; (with_reducible refine HT.out.mono ?_); rintro e w9 ⟨g9, c9, tl9, rfl, hb9, hc9, hg9, hf9⟩; have J1 := Lib.hid hb9; have J2 := Lib.hid (K2.out.fr hf9 (by simp)); have J3 := Lib.hid (K3.out.fr hf9 (by simp)); have J4 := Lib.hid (K4.out.trans hf9); have JC := Lib.hid hc9; clear hb9 hc9 hg9 hf9)
              go_roundg (Q - (q + 1))
              case measure => omega
              case rel =>
                refine ⟨q + 1, g9, c9, tl9, by omega, rfl, by congr 1, rfl, JC.out, ?_, J2.out, J3.out, J4.out⟩
                rw [turnN, HVK.out, HVN.out]
                exact J1.out
            · obtain rfl : q = Q := by omega
              have hVF : turned (padB t) = turnN H0 all q := by unfold turned; rw [HALL.out, show all.length / 64 = q by rw [HLEN.out]; omega]
              obtain ⟨VF, hVFe⟩ : ∃ x, turnN H0 all q = x := ⟨_, rfl⟩
              rw [hVFe] at hVF K1
              have HSH := Lib.hid (show shaB t = digB VF by unfold shaB; rw [hVF])
              have hqI : (T : Int) = 64 * (q : Int) := by omega
              obtain ⟨D, hD⟩ : ∃ D, wr.heap.size = D := ⟨_, rfl⟩
              have HD := Lib.hid hD
              have HDB := Lib.hid (show Blk (wr.alloc (.cells (zs 32).toArray 25)) D 25 (u8s (digQ VF 0)).toArray by rw [digQ_zero, ← hD]; exact Blk.new _ _ _)
              have HHB := Lib.hid (K1.out.alloc (.cells (zs 32).toArray 25))
              have HRB := Lib.hid (K3.out.alloc (.cells (zs 32).toArray 25))
              have HFD := Lib.hid (K4.out.alloc (.cells (zs 32).toArray 25))
              have HDW := Lib.hid (show w.heap.size < D by have := K3.out.lt; omega)
              have HDG := Lib.hid (show gh ≠ D by have := K1.out.lt; omega)
              clear hbh hba hbr hf hch hqe hVF hVFe hD
              go_wp2_with (refine alloc_at rfl 25 rfl (zs 32).toArray arr32_zero D HD.out ?_)
              obtain ⟨wo6, rfl⟩ : ∃ wo6 : World, wo6 = wr := ⟨_, rfl⟩
              go_loopg [11] 32 (fun gg u wr => ∃ i : Nat, i ≤ 32 ∧ gg = 32 - i ∧ u = .int .i64 i ∧ Blk wr D 25 (u8s (digQ VF i)).toArray ∧ Blk wr gh 68 (u32s VF.l ++ tl).toArray ∧ Blk wr w.heap.size 25 (zs 32).toArray ∧ Fr [] w wr)
              case atStart => exact ⟨0, by omega, by omega, rfl, HDB.out, HHB.out, HRB.out, HFD.out⟩
              case round =>
                obtain ⟨i, hi, rfl, rfl, hd, hh, hr, hf⟩ := hrel
                have LD := Lib.hid hd; have LH := Lib.hid hh; have LR := Lib.hid hr; have LF := Lib.hid hf
                by_cases hli : i < 32
                · obtain ⟨x, hx⟩ : ∃ x, VF.l.getD (i / 4) 0 = x := ⟨_, rfl⟩
                  have hl8 : VF.l.length = 8 := rfl
                  have cx : wr.cell? ⟨gh, i / 4, none⟩ = some (.int .u32 (x.toNat : Int)) := by
                    rw [hh.cell, List.getElem?_toArray, List.getElem?_append_left (by simp [hl8]; omega), u32s_get, ← hx]
                    simp [List.getD, show i / 4 < VF.l.length by omega, u32v]
                  have ix := fun w' => ix_sl (P := Try.prog) (b := gh) (off := 0) (n := 8) (c := ch) (d := i / 4) Try.underlying63 sizeW (show i / 4 < 8 by omega) (by omega) ((i : Int) / 4) (by omega) w'
                  have iD := fun w' => run_index_arr (P := Try.prog) (b := D) Try.underlying25 size_u8 hli (i : Int) rfl w'
                  obtain ⟨old, hold⟩ : ∃ old, wr.cell? ⟨D, i, none⟩ = some old := by
                    rw [hd.cell, List.getElem?_toArray]
                    exact ⟨(u8s (digQ VF i))[i]'(by simp [digQ, digB]; omega), by simp⟩
                  have hz := hd.frozen i
                  have hiI : (0 : Int) ≤ (i : Int) ∧ (i : Int) < 32 := by omega
                  have HS := Lib.hid (digQ_step VF i hli)
                  have HX := Lib.hid hx
                  clear hd hh hr hf hx hl8
                  go_wp2_with fail
                  go_roundg (32 - (i + 1))
                  case measure => omega
                  case rel =>
                    have hne : w.heap.size ≠ D := by have := HDW.out; omega
                    have hle : w.heap.size ≤ D := by have := HDW.out; omega
                    have hv := dig_byteR x.toNat (i % 4) (by omega)
                    obtain ⟨y, hy⟩ : ∃ y, UInt8.ofNat (x.toNat / 256 ^ (3 - i % 4)) = y := ⟨_, rfl⟩
                    rw [hy] at hv
                    rw [hv]
                    have hb2 := LD.out.set_ i (.int .u8 (y.toNat : Int))
                    have hs := HS.out
                    rw [HX.out, hy] at hs
                    rw [u8s_set, hs] at hb2
                    exact ⟨i + 1, by omega, rfl, by go_num, hb2, LH.out.far (p := ⟨D, i, none⟩) HDG.out _, LR.out.far (p := ⟨D, i, none⟩) hne _, LF.out.setCell (.inr hle) _⟩
                · obtain rfl : i = 32 := by omega
                  rw [digQ_all] at hd
                  have h32 : (digB VF).length = 32 := digB_length VF
                  have HC32 := Lib.hid (show ∀ j v, (u8s (digB VF))[j]? = some v → wr.cell? ⟨D, 0 + j, none⟩ = some v from fun j v hv => by rw [hd.cell, List.getElem?_toArray, Nat.zero_add]; exact hv)
                  have HSP := Lib.hid (splice_32 (digB VF) h32)
                  have HSI := Lib.hid (dig_size (digB VF) h32)
                  have HFT := Lib.hid (show 0 + (u8s (digB VF)).length ≤ (zs 32).length by simp [zs_length, h32])
                  clear hd hh hr hf h32
                  go_wp2_with (first
                    | (refine wpList_load_agg rfl 25 (.tmp 10) rfl D 0 rfl (u8s (digB VF)) _ HC32.out Try.underlying25 rfl HSI.out ?_)
                    | (refine wpList_store_agg rfl 25 (.tmp 4) (.tmp 77) rfl w.heap.size 0 rfl (u8s (digB VF)) rfl (zs 32) 25 LR.out HFT.out (u8s_one _) HSI.out ?_))
                  have hb6 := LR.out.setRow_ (splice (zs 32) 0 (u8s (digB VF))).toArray
                  rw [HSP.out] at hb6 ⊢
                  refine bodyPost_ret (results_cell_row (p := 4) (ty := 25) rfl _ _ w.heap.size 25 (u8s (digB VF)).toArray (0, 0) _ rfl hb6 Try.underlying25 rfl (by rw [List.size_toArray]; exact HSI.out)) rfl ?_
                  rw [HSH.out]
                  exact ⟨rfl, LF.out.setRow (.inr (Nat.le_refl _)) _⟩
    · have htI : ((M : Int) % 64 == 56) = false := by rw [beq_eq_false_iff_ne]; have h := fun h => hlt (hte.1 h); omega
      have htJ : ((M : Int) % 64 != 56) = true := by rw [bne_iff_ne]; have h := fun h => hlt (hte.1 h); omega
      have HLT := Lib.hid hlt
      have HO1 := Lib.hid (HO.out.alloc (.cells #[.int .u8 0] 5)); have HF1 := Lib.hid (HF.out.alloc (.cells #[.int .u8 0] 5)); have HG1 := Lib.hid (ownB_at HO.out).2.1
      rw [hM] at HO1
      clear hM hte hlt
      go_wp2_with (at_builtin; refine growU8 rfl (.tmp 21) (.tmp 22) rfl W0.heap.size _ M _ (t ++ 128 :: List.replicate k 0) rfl HO1.out _ 1 1 [0] rfl rfl (rd_000 wr _) hMb1 HF1.out.size ?_; intro g2 c2 w4 ho2 hf2; have HO2 := Lib.hid ho2; have HF2 := Lib.hid (HF1.out.trans' hf2 (fun x hx => by simp at hx; subst hx; exact .inr HG1.out)); clear ho2 hf2)
      go_roundg (K - (k + 1))
      case measure => have := HLT.out; omega
      case rel =>
        have hkk := HLT.out; have hm1 := HMM.out
        have ho := HO2.out
        rw [eights_split N K _ HN.out, ← hm1] at ho
        exact ⟨k + 1, _, _, by omega, rfl, by rw [← hm1]; rfl, ho, HF2.out⟩
set_option maxHeartbeats 1000000 in
theorem rsum_calls (w : World) (A : Option Addr) (n c : Nat) (l : List UInt8) (hn : l.length = n) (hA : Rd w A l) (hbd : n ≤ 100000000) :
    Calls Try.prog 26 #[.slice A n c] w (Agg (.agg (u8s (shaB l)).toArray) w) := by
  have HB := Lib.hid (Blk.new w 25 (zs 32).toArray)
  have hf0 := (Fr.refl [] w).alloc (.cells (zs 32).toArray 25)
  have HWD := Lib.hid (words_calls (w.alloc (.cells (zs 32).toArray 25)))
  have HA := Lib.hid (hA.fr hf0 (by simp)); have HF0 := Lib.hid hf0; have HN := Lib.hid hn
  have hl32 := shaB_length l
  have HSP := Lib.hid (splice_32 (shaB l) hl32)
  have HSI := Lib.hid (dig_size (shaB l) hl32)
  have HFT := Lib.hid (show 0 + (u8s (shaB l)).length ≤ (zs 32).length by simp [zs_length, hl32])
  clear hA hf0 hn hl32
  go_enter Try.func26, Try.ntmps26
  go_wp2_with (first
    | (refine wpList_alloc_agg rfl 25 rfl (zs 32).toArray arr32_zero ?_)
    | (go_at_call 40; (with_reducible refine HWD.out.mono ?_); rintro e w1 ⟨gk, rfl, hbk, hf1⟩; have HF1 := Lib.hid hf1; have HB1 := Lib.hid (HB.out.fr hf1 (by simp)); have HWI := Lib.hid (with_calls w1 A n c l HN.out (HA.out.fr hf1 (by simp)) hbd (some ⟨gk, 0, none⟩) 64 (rdU_blk (tl := []) (by rw [List.append_nil]; exact hbk))); clear hbk hf1)
    | (go_at_call 39; (with_reducible refine HWI.out.mono ?_); rintro e w3 ⟨rfl, hf3⟩; have HF3 := Lib.hid hf3; have HB3 := Lib.hid (HB1.out.fr hf3 (by simp)); clear hf3)
    | (refine wpList_store_agg rfl 25 (.tmp 2) (.tmp 5) rfl w.heap.size 0 rfl (u8s (shaB l)) rfl (zs 32) 25 HB3.out HFT.out (u8s_one _) HSI.out ?_))
  have hb6 := HB3.out.setRow_ (splice (zs 32) 0 (u8s (shaB l))).toArray
  rw [HSP.out] at hb6 ⊢
  refine bodyPost_ret (results_cell_row (p := 2) (ty := 25) rfl _ _ w.heap.size 25 (u8s (shaB l)).toArray (0, 0) _ rfl hb6 Try.underlying25 rfl (by rw [List.size_toArray]; exact HSI.out)) rfl ?_
  exact ⟨rfl, (((HF0.out.trans HF1.out).trans HF3.out)).setRow (.inr (Nat.le_refl _)) _⟩
end Go.Proofs.Ytmgbimdebhhckaa
