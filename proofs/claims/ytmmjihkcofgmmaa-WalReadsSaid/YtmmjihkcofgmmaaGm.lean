/- The texts WalAD WalAE WalAF of this seat, one behind another; what each says stands at its head. -/
import Derived.Test.YtmmjihkcofgmmaaGl

/- The document's Sectors. -/
namespace Go.Proofs.Ytmmjihkcofgmmaa
open Go.RowKit
set_option linter.unusedVariables false

theorem rec_form (n m : Nat) (b sum : List UInt8) (hm : b.length = m) (hs : sum.length = 32) : (((headR n m ++ (List.range 19).map (fun j => b.getD j 0)) ++ sum) ++ [1]) ++ b.drop 19 = firstB n b sum ++ b.drop 19 := by
  subst hm
  rw [fill_eq]
  simp [firstB]
theorem getD_in {b : List UInt8} {k : Nat} {t : UInt8} (h : b[k]? = some t) : b.getD k 0 = t := by rw [List.getD_eq_getElem?_getD, h]; rfl
theorem getD_out {b : List UInt8} {k : Nat} (h : b.length ≤ k) : b.getD k 0 = 0 := by rw [List.getD_eq_getElem?_getD, List.getElem?_eq_none h]; rfl
theorem range_snoc (b : List UInt8) (k : Nat) : (List.range (k + 1)).map (fun j => b.getD j 0) = (List.range k).map (fun j => b.getD j 0) ++ [b.getD k 0] := by rw [List.range_succ, List.map_append]; rfl
theorem take_snoc {b : List UInt8} {k : Nat} {t : UInt8} (h : b[k]? = some t) : b.take (k + 1) = b.take k ++ [t] := by rw [List.take_add_one, h]; rfl
theorem drop_take_snoc {b : List UInt8} {k i : Nat} {t : UInt8} (hk : k ≤ i) (h : b[i]? = some t) : (b.take (i + 1)).drop k = (b.take i).drop k ++ [t] := by
  rw [take_snoc h, List.drop_append_of_le_length]
  rw [List.length_take]
  have := (List.getElem?_eq_some_iff.1 h).1
  omega
theorem rd_at {w w' : World} {A : Option Addr} {b : List UInt8} {m k : Nat} {t : UInt8} (hm : b.length = m) (hA : Rd w A b) (hf : Fr [] w w') (ht : b[k]? = some t) : ∃ g off, A = some ⟨g, off, none⟩ ∧ w'.cell? ⟨g, off + k, none⟩ = some (.int .u8 (t.toNat : Int)) := by
  have hk := (List.getElem?_eq_some_iff.1 ht).1
  obtain ⟨g, off, rfl, hc⟩ := (hA.fr hf (by simp)) (by omega)
  exact ⟨g, off, rfl, hc k t ht⟩
set_option maxHeartbeats 4000000 in
set_option maxRecDepth 100000 in
theorem sectors08_calls (w : World) (last : List UInt8) (hl : last.length = 32) (n : Nat) (hn : n ≤ 1000000000) (A : Option Addr) (m c : Nat) (b : List UInt8) (hm : b.length = m) (hA : Rd w A b) (hmb : m ≤ 100000) :
    Calls Try.prog 30 #[.agg (u8s last).toArray, .int .i64 (n : Int), .slice A m c] w (OwnRN w (64 * needN m) (recB last n b)) := by
  obtain ⟨w1, hw1⟩ : ∃ W, w.alloc (.cells (u8s last).toArray 41) = W := ⟨_, rfl⟩
  have f1 : Fr [] w w1 := hw1 ▸ (Fr.refl [] w).alloc _
  have hb1 : Blk w1 w.heap.size 41 (u8s last).toArray := hw1 ▸ Blk.new w _ _
  obtain ⟨sum, hsum⟩ : ∃ sum, sumR last n b = sum := ⟨_, rfl⟩
  have hsl : sum.length = 32 := hsum ▸ sumR_length _ _ _
  have HCS := Lib.hid (rd_row hb1)
  have HDL := Lib.hid (digF last hl); have HDS := Lib.hid (digF sum hsl)
  have HSM := Lib.hid (hsum ▸ rsum08_calls w1 last hl n hn A m c b hm (hA.fr f1 (by simp)) (by omega) : Calls Try.prog 31 #[.agg (u8s last).toArray, .int .i64 (n : Int), .slice A m c] w1 (Agg (.agg (u8s sum).toArray) w1))
  have F1 := Lib.hid f1
  have HCT := Lib.hid (fun W => (cntL_nat m (by omega) ▸ rcnt_calls W (m : Int) : Calls Try.prog 40 #[.int .i64 (m : Int)] W (OwnN W 3 (countB m))))
  have HNM := Lib.hid (fun W => rnum_calls W (n : Int) (by omega) (by omega))
  have HA := Lib.hid hA; have HM := Lib.hid hm; have HSS := Lib.hid (And.intro hsum hsl)
  have HRB := Lib.hid (recB_length last n b (by omega))
  have hmI : (0 : Int) ≤ (m : Int) ∧ (m : Int) ≤ 100000 := by omega
  clear hl hm hA f1 hb1 hsum hsl
  go_enter Try.func30, Try.ntmps30
  go_upto_region 3 with (first
    | (refine box_agg rfl 41 (.tmp 0) rfl (u8s last).toArray rfl ?_; rw [hw1])
    | (refine wpList_wanted (v := .agg (u8s last).toArray) (by kernel_rfl) (exec_load_agg (ty := 41) (x := .tmp 3) rfl w.heap.size 0 rfl (u8s last) _ HCS.out Try.underlying41 rfl HDL.out.2.1) ?_)
    | (go_at_call 31; (refine HSM.out.mono ?_); rintro e w2 ⟨rfl, f2⟩; obtain ⟨y, hy⟩ : ∃ y, w2.heap.size = y := ⟨_, rfl⟩; have HY := Lib.hid (show w.heap.size ≤ y from hy ▸ (F1.out.trans f2).size); obtain ⟨w3, hw3⟩ : ∃ W, w2.alloc (.cells (zs 32).toArray 41) = W := ⟨_, rfl⟩; have HB3 := Lib.hid (show Blk w3 y 41 (zs 32).toArray from hw3 ▸ hy ▸ Blk.new w2 _ _); have F3 := Lib.hid (show Fr [] w w3 from hw3 ▸ (F1.out.trans f2).alloc _))
    | (refine wpList_alloc_agg rfl 41 rfl (zs 32).toArray arr32_zero ?_; rw [hw3, hy])
    | (refine wpList_store_agg rfl 41 (.tmp 7) (.tmp 15) rfl y 0 rfl (u8s sum) rfl (zs 32) 41 HB3.out HDS.out.1 (u8s_one _) HDS.out.2.1 ?_; rw [HDS.out.2.2]; obtain ⟨w4, hw4⟩ : ∃ W, w3.setRow y (u8s sum).toArray = W := ⟨_, rfl⟩; rw [hw4]; have HB4 := Lib.hid (show Blk w4 y 41 (u8s sum).toArray from hw4 ▸ HB3.out.setRow_ _); have F4 := Lib.hid (show Fr [] w w4 from hw4 ▸ Fr.setRow F3.out (.inr HY.out) _); clear hw4))
  have f5 : Fr [] w4 (w4.alloc (.cells #[.int .u8 87] 5)) := (Fr.refl [] w4).alloc _
  have ho5 := own_one w4 w.heap.size F4.out.size 87
  obtain ⟨w5, hw5⟩ : ∃ W, w4.alloc (.cells #[.int .u8 87] 5) = W := ⟨_, rfl⟩
  have ho5' : w5.ownsRow w.heap.size 5 1 (.slice (some ⟨w4.heap.size, 0, none⟩) 1 1) 1 (u8s [87]) := hw5 ▸ ho5
  rw [hw5] at f5 ⊢
  obtain ⟨z, hz⟩ : ∃ z, w4.heap.size = z := ⟨_, rfl⟩
  rw [hz] at ho5' ⊢
  have HO5 := Lib.hid ho5'; have HB5 := Lib.hid (HB4.out.fr f5 (by simp)); have F5 := Lib.hid (F4.out.trans f5)
  clear ho5 ho5' f5 hw5 hz
  go_upto_region 5 with (first
    | (go_at_call 40; (refine (HCT.out w5).mono ?_); rintro e w6 ⟨A6, c6, rfl, ho6, f6⟩; have HR6 := Lib.hid (OwnN.rdd ho6); have HO6 := Lib.hid (own_fr HO5.out f6 (by simp)); have HB6 := Lib.hid (HB5.out.fr f6 (by simp)); have F6 := Lib.hid (F5.out.trans f6); clear ho6 f6)
    | (refine appU8 rfl (.tmp 17) (.tmp 20) rfl w.heap.size (.slice (some ⟨z, 0, none⟩) 1 1) 1 [87] rfl HO6.out A6 3 c6 (countB m) rfl rfl HR6.out (by omega) F6.out.size ?_; intro A7 c7 w7 ho7 f7 _; have HO7 := Lib.hid (show w7.ownsRow w.heap.size 5 1 (.slice A7 4 c7) 4 (u8s ([87] ++ countB m)) from ho7); have HB7 := Lib.hid (HB6.out.fr f7 (by intro hm; exact own_blk_ne HO6.out HB6.out (by decide) (by simpa using hm))); have F7 := Lib.hid (F6.out.trans' f7 (fun q hq => .inr (HO6.out.lt q (by simpa using hq)).1)); clear ho7 f7)
    | (go_at_call 41; (refine (HNM.out w7).mono ?_); rintro e w8 ⟨A8, c8, rfl, ho8, f8⟩; have HR8 := Lib.hid (OwnN.rdd ho8); have HO8 := Lib.hid (own_fr HO7.out f8 (by simp)); have HB8 := Lib.hid (HB7.out.fr f8 (by simp)); have F8 := Lib.hid (F7.out.trans f8); clear ho8 f8)
    | (refine appU8 rfl (.tmp 22) (.tmp 24) rfl w.heap.size (.slice A7 4 c7) 4 ([87] ++ countB m) rfl HO8.out A8 8 c8 (numB (n : Int)) rfl (numB_length _) HR8.out (by omega) F8.out.size ?_; intro A9 c9 w9 ho9 f9 _; have HO9 := Lib.hid (show w9.ownsRow w.heap.size 5 1 (.slice A9 12 c9) 12 (u8s (headR n m)) from ho9); have HB9 := Lib.hid (HB8.out.fr f9 (by intro hm; exact own_blk_ne HO8.out HB8.out (by decide) (by simpa using hm))); have F9 := Lib.hid (F8.out.trans' f9 (fun q hq => .inr (HO8.out.lt q (by simpa using hq)).1)); clear ho9 f9))
  go_wp2_with fail
  go_loopg [8, 9] 19 (fun gg v u wr => ∃ (k L : Nat) (A1 : Option Addr) (c1 : Nat), k ≤ 19 ∧ gg = 19 - k ∧ u = .int .i64 (k : Int) ∧ L = 12 + k ∧ v = .slice A1 L c1 ∧ wr.ownsRow w.heap.size 5 1 (.slice A1 L c1) L (u8s (headR n m ++ (List.range k).map (fun j => b.getD j 0))) ∧ Blk wr y 41 (u8s sum).toArray ∧ Fr [] w wr)
  case atStart => exact ⟨0, 12, A9, c9, by omega, by omega, rfl, rfl, rfl, by simpa using HO9.out, HB9.out, F9.out⟩
  case round =>
    rename World => wr
    obtain ⟨k, L, A1, c1, hk, rfl, rfl, hLk, rfl, ho, hb, hf⟩ := hrel
    have HL := Lib.hid hLk
    clear hLk
    have HO := Lib.hid ho; have HB := Lib.hid hb; have HF := Lib.hid hf
    have hkI : (0 : Int) ≤ (k : Int) ∧ (k : Int) ≤ 19 := by omega
    clear ho hb hf
    by_cases h19 : k < 19
    · have h19I : (k : Int) < 19 := by omega
      by_cases hlt : k < m
      · obtain ⟨t, ht⟩ : ∃ t, b[k]? = some t := ⟨_, List.getElem?_eq_getElem (by have := HM.out; omega)⟩
        obtain ⟨gb, ob, rfl, hcell⟩ := rd_at HM.out HA.out HF.out ht
        have hix := fun w' => ix_sl0 (P := Try.prog) (b := gb) (off := ob) (n := m) (c := c) (j := k) Try.underlying26 Dk.sizeU8 hlt w'
        have hltI : (k : Int) < (m : Int) := by omega
        have HT := Lib.hid (getD_in ht)
        clear ht
        go_wp2_with (at_builtin; have f5 := (Fr.refl [] wr).alloc (.cells #[.int .u8 ((t : UInt8).toNat : Int)] 5); refine wpList_app1 rfl (.tmp 34) (.tmp 39) 40 rfl rfl w.heap.size (.slice A1 L c1) (headR n m ++ (List.range k).map (fun j => b.getD j 0)) L rfl (own_fr HO.out f5 (by simp)) wr.heap.size 1 t rfl (Blk.new wr _ _) (by have := HL.out; omega) (Nat.le_trans HF.out.size f5.size) ?_; intro v' w' ho' f'; obtain ⟨A', c', rfl⟩ := own_slice ho'; have HB' := Lib.hid ((HB.out.fr f5 (by simp)).fr f' (by intro hm; exact own_blk_ne HO.out HB.out (by decide) (by simpa using hm))); have HF' := Lib.hid ((HF.out.trans f5).trans' f' (fun q hq => .inr (HO.out.lt q (by simpa using hq)).1)); have HO' := Lib.hid ho'; clear ho' f' f5)
        go_roundg (19 - (k + 1))
        case measure => omega
        case rel => exact ⟨k + 1, L + 1, A', c', by omega, rfl, by go_num, by have := HL.out; omega, rfl, by rw [range_snoc, HT.out, ← List.append_assoc]; exact HO'.out, HB'.out, HF'.out⟩
      · have hltI : (m : Int) ≤ (k : Int) := by omega
        have HT := Lib.hid (getD_out (b := b) (k := k) (by have := HM.out; omega))
        go_wp2_with (at_builtin; have f5 := (Fr.refl [] wr).alloc (.cells #[.int .u8 ((0 : UInt8).toNat : Int)] 5); refine wpList_app1 rfl (.tmp 41) (.tmp 42) 43 rfl rfl w.heap.size (.slice A1 L c1) (headR n m ++ (List.range k).map (fun j => b.getD j 0)) L rfl (own_fr HO.out f5 (by simp)) wr.heap.size 1 0 rfl (Blk.new wr _ _) (by have := HL.out; omega) (Nat.le_trans HF.out.size f5.size) ?_; intro v' w' ho' f'; obtain ⟨A', c', rfl⟩ := own_slice ho'; have HB' := Lib.hid ((HB.out.fr f5 (by simp)).fr f' (by intro hm; exact own_blk_ne HO.out HB.out (by decide) (by simpa using hm))); have HF' := Lib.hid ((HF.out.trans f5).trans' f' (fun q hq => .inr (HO.out.lt q (by simpa using hq)).1)); have HO' := Lib.hid ho'; clear ho' f' f5)
        go_roundg (19 - (k + 1))
        case measure => omega
        case rel => exact ⟨k + 1, L + 1, A', c', by omega, rfl, by go_num, by have := HL.out; omega, rfl, by rw [range_snoc, HT.out, ← List.append_assoc]; exact HO'.out, HB'.out, HF'.out⟩
    · obtain rfl : k = 19 := by omega
      obtain ⟨P1, hP1⟩ : ∃ P1, headR n m ++ (List.range 19).map (fun j => b.getD j 0) = P1 := ⟨_, rfl⟩
      obtain rfl : L = 31 := by have := HL.out; omega
      have HO1 := Lib.hid (show wr.ownsRow w.heap.size 5 1 (.slice A1 31 c1) 31 (u8s P1) from by have h := HO.out; rw [hP1] at h; exact h)
      have HP1 := Lib.hid hP1
      clear hP1
      go_wp2_with fail
      go_loopg [8, 10] 32 (fun gg v u wr => ∃ (k L : Nat) (A1 : Option Addr) (c1 : Nat), k ≤ 32 ∧ gg = 32 - k ∧ u = .int .i64 (k : Int) ∧ L = 31 + k ∧ v = .slice A1 L c1 ∧ wr.ownsRow w.heap.size 5 1 (.slice A1 L c1) L (u8s (P1 ++ sum.take k)) ∧ Blk wr y 41 (u8s sum).toArray ∧ Fr [] w wr)
      case atStart => exact ⟨0, 31, A1, c1, by omega, by omega, rfl, rfl, rfl, by simpa using HO1.out, HB.out, HF.out⟩
      case round =>
        clear HO HB HF HO1 hkI h19
        rename World => wr
        obtain ⟨k, L, A1, c1, hk, rfl, rfl, hLk, rfl, ho, hb, hf⟩ := hrel
        have HL := Lib.hid hLk
        clear hLk
        have HO := Lib.hid ho; have HB := Lib.hid hb; have HF := Lib.hid hf
        have hkI : (0 : Int) ≤ (k : Int) ∧ (k : Int) ≤ 32 := by omega
        clear ho hf
        by_cases h32 : k < 32
        · have h32I : (k : Int) < 32 := by omega
          obtain ⟨t, ht⟩ : ∃ t, sum[k]? = some t := ⟨_, List.getElem?_eq_getElem (by have := HSS.out.2; omega)⟩
          have hcell : wr.cell? ⟨y, k, none⟩ = some (.int .u8 (t.toNat : Int)) := by rw [hb.cell, List.getElem?_toArray, u8s_get, ht]; rfl
          have hix := fun w' => run_index_arr (P := Try.prog) (b := y) Try.underlying41 Dk.sizeU8 h32 (k : Int) rfl w'
          have HT := Lib.hid (take_snoc ht)
          clear ht hb
          go_wp2_with (at_builtin; have f5 := (Fr.refl [] wr).alloc (.cells #[.int .u8 ((t : UInt8).toNat : Int)] 5); refine wpList_app1 rfl (.tmp 48) (.tmp 52) 53 rfl rfl w.heap.size (.slice A1 L c1) (P1 ++ sum.take k) L rfl (own_fr HO.out f5 (by simp)) wr.heap.size 1 t rfl (Blk.new wr _ _) (by have := HL.out; omega) (Nat.le_trans HF.out.size f5.size) ?_; intro v' w' ho' f'; obtain ⟨A', c', rfl⟩ := own_slice ho'; have HB' := Lib.hid ((HB.out.fr f5 (by simp)).fr f' (by intro hm; exact own_blk_ne HO.out HB.out (by decide) (by simpa using hm))); have HF' := Lib.hid ((HF.out.trans f5).trans' f' (fun q hq => .inr (HO.out.lt q (by simpa using hq)).1)); have HO' := Lib.hid ho'; clear ho' f' f5)
          go_roundg (32 - (k + 1))
          case measure => omega
          case rel => exact ⟨k + 1, L + 1, A', c', by omega, rfl, by go_num, by have := HL.out; omega, rfl, by rw [HT.out, ← List.append_assoc]; exact HO'.out, HB'.out, HF'.out⟩
        · obtain rfl : k = 32 := by omega
          have HO2 := Lib.hid (show wr.ownsRow w.heap.size 5 1 (.slice A1 L c1) L (u8s (P1 ++ sum)) from by have := HO.out; rwa [List.take_of_length_le (by have := HSS.out.2; omega)] at this)
          clear hb HO
          go_upto_region 16 with (at_builtin; have f5 := (Fr.refl [] wr).alloc (.cells #[.int .u8 ((1 : UInt8).toNat : Int)] 5); refine wpList_app1 rfl (.tmp 54) (.tmp 55) 56 rfl rfl w.heap.size (.slice A1 L c1) (P1 ++ sum) L rfl (own_fr HO2.out f5 (by simp)) wr.heap.size 1 1 rfl (Blk.new wr _ _) (by have := HL.out; omega) (Nat.le_trans HF.out.size f5.size) ?_; intro v' w' ho' f'; obtain ⟨A', c', rfl⟩ := own_slice ho'; have HB' := Lib.hid ((HB.out.fr f5 (by simp)).fr f' (by intro hm; exact own_blk_ne HO2.out HB.out (by decide) (by simpa using hm))); have HF' := Lib.hid ((HF.out.trans f5).trans' f' (fun q hq => .inr (HO2.out.lt q (by simpa using hq)).1)); have HO' := Lib.hid ho'; clear ho' f' f5)
          obtain ⟨P2, hP2⟩ : ∃ P2, P1 ++ sum ++ [1] = P2 := ⟨_, rfl⟩
          obtain rfl : L = 63 := by have := HL.out; omega
          have HO3 := Lib.hid (show w'.ownsRow w.heap.size 5 1 (.slice A' 64 c') 64 (u8s P2) from hP2 ▸ HO'.out)
          have HP2 := Lib.hid hP2
          have HB3' := HB'; have HF3' := HF'
          clear hP2 HO' HO2 HB HF hkI h32
          go_wp2_with fail
          go_loopg [8, 11] (m - 19) (fun gg v u wr => ∃ (k L : Nat) (A1 : Option Addr) (c1 : Nat), (k ≤ m - 19) ∧ gg = m - 19 - k ∧ u = .int .i64 ((19 + k : Nat) : Int) ∧ L = 64 + k ∧ v = .slice A1 L c1 ∧ wr.ownsRow w.heap.size 5 1 (.slice A1 L c1) L (u8s (P2 ++ (b.drop 19).take k)) ∧ Blk wr y 41 (u8s sum).toArray ∧ Fr [] w wr)
          case atStart => exact ⟨0, 64, A', c', by omega, by omega, rfl, rfl, rfl, by simpa using HO3.out, HB3'.out, HF3'.out⟩
          case round =>
            clear HO3 HB3' HF3'
            rename World => wr
            obtain ⟨k, L, A1, c1, hk, rfl, rfl, hLk, rfl, ho, hb, hf⟩ := hrel
            have HL := Lib.hid hLk
            clear hLk
            have HO := Lib.hid ho; have HB := Lib.hid hb; have HF := Lib.hid hf
            have hkI : (0 : Int) ≤ (k : Int) ∧ (k : Int) ≤ 100000 := by omega
            clear ho hf hb
            by_cases hlt : 19 + k < m
            · have hltI : ((19 + k : Nat) : Int) < (m : Int) := by omega
              obtain ⟨t, ht⟩ : ∃ t, b[19 + k]? = some t := ⟨_, List.getElem?_eq_getElem (by have := HM.out; omega)⟩
              obtain ⟨gb, ob, rfl, hcell⟩ := rd_at HM.out HA.out HF.out ht
              have hix := fun w' => ix_sl0 (P := Try.prog) (b := gb) (off := ob) (n := m) (c := c) (j := 19 + k) Try.underlying26 Dk.sizeU8 hlt w'
              have HT := Lib.hid (show (b.drop 19).take (k + 1) = (b.drop 19).take k ++ [t] from take_snoc (by rw [List.getElem?_drop]; exact ht))
              obtain ⟨q, hq⟩ : ∃ q, 19 + k = q := ⟨_, rfl⟩
              rw [hq] at hcell hix hltI ⊢
              have HQ := Lib.hid hq
              have hqI : (0 : Int) ≤ (q : Int) ∧ (q : Int) ≤ 100000 := by omega
              clear ht hq
              go_wp2_with (at_builtin; have f5 := (Fr.refl [] wr).alloc (.cells #[.int .u8 ((t : UInt8).toNat : Int)] 5); refine wpList_app1 rfl (.tmp 63) (.tmp 68) 69 rfl rfl w.heap.size (.slice A1 L c1) (P2 ++ (b.drop 19).take k) L rfl (own_fr HO.out f5 (by simp)) wr.heap.size 1 t rfl (Blk.new wr _ _) (by have := HL.out; omega) (Nat.le_trans HF.out.size f5.size) ?_; intro v' w' ho' f'; obtain ⟨A', c', rfl⟩ := own_slice ho'; have HB' := Lib.hid ((HB.out.fr f5 (by simp)).fr f' (by intro hm; exact own_blk_ne HO.out HB.out (by decide) (by simpa using hm))); have HF' := Lib.hid ((HF.out.trans f5).trans' f' (fun q hq => .inr (HO.out.lt q (by simpa using hq)).1)); have HO' := Lib.hid ho'; clear ho' f' f5)
              go_roundg (m - 19 - (k + 1))
              case measure => omega
              case rel => exact ⟨k + 1, L + 1, A', c', by omega, rfl, congrArg (Value.int .i64) (by have := HQ.out; omega), by have := HL.out; omega, rfl, by rw [HT.out, ← List.append_assoc]; exact HO'.out, HB'.out, HF'.out⟩
            · have hltI : (m : Int) ≤ ((19 + k : Nat) : Int) := by omega
              obtain ⟨P3, hP3⟩ : ∃ P3, P2 ++ b.drop 19 = P3 := ⟨_, rfl⟩
              have hP3l : P3.length = L := by
                have h := HO.out.1
                rw [← hP3, List.length_append]
                rw [u8s_length, List.length_append, List.length_take, List.length_drop] at h
                rw [List.length_drop]
                have := HM.out
                omega
              have HO4 := Lib.hid (show wr.ownsRow w.heap.size 5 1 (.slice A1 L c1) L (u8s P3) from by have h := HO.out; rw [List.take_of_length_le (by rw [List.length_drop]; have := HM.out; omega), hP3] at h; exact h)
              have HP3 := Lib.hid hP3; have HP3L := Lib.hid hP3l
              have hLb : L ≤ 200000 := by have := HL.out; omega
              clear hP3 hP3l HO
              go_wp2_with fail
              go_loopg [8] 64 (fun gg v wr => ∃ (k L1 : Nat) (A1 : Option Addr) (c1 : Nat), (k ≤ (64 - L % 64) % 64) ∧ gg = 64 - k ∧ L1 = L + k ∧ v = .slice A1 L1 c1 ∧ wr.ownsRow w.heap.size 5 1 (.slice A1 L1 c1) L1 (u8s (P3 ++ List.replicate k 0)) ∧ Blk wr y 41 (u8s sum).toArray ∧ Fr [] w wr)
              case atStart => exact ⟨0, L, A1, c1, by omega, by omega, rfl, rfl, by simpa using HO4.out, HB.out, HF.out⟩
              case round =>
                clear HO4 HB HF
                rename World => wr
                obtain ⟨k', L1, A2, c2, hk', rfl, hL1, rfl, ho, hb, hf⟩ := hrel
                have HL' := Lib.hid hL1
                clear hL1
                have HO := Lib.hid ho; have HB := Lib.hid hb; have HF := Lib.hid hf
                clear ho hf hb
                by_cases hz : L1 % 64 = 0
                · have hzb : ((L1 : Int).tmod 64 != 0) = false := by
                    rw [show (L1 : Int).tmod 64 = ((L1 % 64 : Nat) : Int) from rfl, hz]
                    rfl
                  have hL1I : (0 : Int) ≤ (L1 : Int) := by omega
                  have hkk : k' = (64 - L % 64) % 64 := by have := HL'.out; omega
                  have HE := Lib.hid (show recB last n b = P3 ++ List.replicate k' 0 from by
                    unfold recB
                    rw [HSS.out.1, ← pad64_first _ _ (firstB_length n b sum HSS.out.2), ← rec_form n m b sum HM.out HSS.out.2, HP1.out, HP2.out, HP3.out]
                    unfold pad64
                    rw [HP3L.out, hkk])
                  have HLL := Lib.hid (show L1 = 64 * needN m from by
                    have h1 := HRB.out
                    rw [HE.out, List.length_append, HP3L.out, List.length_replicate, HM.out] at h1
                    have := HL'.out
                    omega)
                  go_wp2_with fail
                  go_ret
                  rw [HE.out]
                  have h1 := HO.out
                  have h2 := HLL.out
                  subst h2
                  exact ⟨A2, c2, rfl, h1, HF.out⟩
                · have hzb : ((L1 : Int).tmod 64 != 0) = true := by
                    rw [show (L1 : Int).tmod 64 = ((L1 % 64 : Nat) : Int) from rfl, bne_iff_ne]
                    omega
                  go_wp2_with (at_builtin; have f5 := (Fr.refl [] wr).alloc (.cells #[.int .u8 ((0 : UInt8).toNat : Int)] 5); refine wpList_app1 rfl (.tmp 74) (.tmp 75) 76 rfl rfl w.heap.size (.slice A2 L1 c2) (P3 ++ List.replicate k' 0) L1 rfl (own_fr HO.out f5 (by simp)) wr.heap.size 1 0 rfl (Blk.new wr _ _) (by have := HL'.out; omega) (Nat.le_trans HF.out.size f5.size) ?_; intro v' w' ho' f'; obtain ⟨A', c', rfl⟩ := own_slice ho'; have HB' := Lib.hid ((HB.out.fr f5 (by simp)).fr f' (by intro hm; exact own_blk_ne HO.out HB.out (by decide) (by simpa using hm))); have HF' := Lib.hid ((HF.out.trans f5).trans' f' (fun q hq => .inr (HO.out.lt q (by simpa using hq)).1)); have HO' := Lib.hid ho'; clear ho' f' f5)
                  go_roundg (64 - (k' + 1))
                  case measure => omega
                  case rel => exact ⟨k' + 1, L1 + 1, A', c', by have := HL'.out; omega, rfl, by have := HL'.out; omega, rfl, by rw [List.replicate_succ', ← List.append_assoc]; exact HO'.out, HB'.out, HF'.out⟩
end Go.Proofs.Ytmmjihkcofgmmaa

/- The document's All. -/
namespace Go.Proofs.Ytmmjihkcofgmmaa
open Go.RowKit
set_option linter.unusedVariables false

theorem allB_take_le (T : List (List UInt8)) (k : Nat) : (allB (T.take k)).length ≤ (allB T).length := by
  obtain ⟨r, hr⟩ := allB_pre (T.drop k) (T.take k)
  rw [List.take_append_drop] at hr
  rw [hr, List.length_append]
  omega
theorem OldW.y_fr {w w' : World} {y : Nat} {t : TypeId} {cs : Array Value} {base : Nat} {v : Value} {n : Nat} {xs : List Value} (hb : Blk w y t cs) (h : w.ownsRow base 5 1 v n xs) (hne : (5 : TypeId) ≠ t) (hf : Fr v.ownBlock.toList w w') : Blk w' y t cs :=
  hb.fr hf (fun hm => own_blk_ne h hb hne (by simpa using hm))
set_option maxHeartbeats 2000000 in
set_option maxRecDepth 100000 in
theorem all08_calls (w : World) (TA : Option Addr) (n c : Nat) (T : List (List UInt8)) (hn : T.length = n) (hT : TxIn w TA T) (hb : n ≤ 1000000) (hs : ∀ t ∈ T, t.length ≤ 100000) (hbig : (allB T).length ≤ 100000000) :
    Calls Try.prog 11 #[.slice TA n c] w (OwnRN w (allB T).length (allB T)) := by
  obtain ⟨w1, hw1⟩ : ∃ W, w.alloc (.cells (zs 32).toArray 41) = W := ⟨_, rfl⟩
  have f1 : Fr [] w w1 := hw1 ▸ (Fr.refl [] w).alloc _
  have HL1 := Lib.hid (show Blk w1 w.heap.size 41 (zs 32).toArray from hw1 ▸ Blk.new w _ _)
  have F1 := Lib.hid f1
  have HT := Lib.hid hT; have HN := Lib.hid hn; have HS := Lib.hid hs; have HBIG := Lib.hid hbig
  have hnI : (n : Int) ≤ 1000000 := by omega
  clear f1 hT hn hs hbig
  go_enter Try.func11, Try.ntmps11
  go_wp2_with (refine wpList_alloc_agg rfl 41 rfl (zs 32).toArray arr32_zero ?_; rw [hw1])
  go_loopg [3, 5] n (fun gg v u wr => ∃ (k L : Nat) (A1 : Option Addr) (c1 : Nat), k ≤ n ∧ gg = n - k ∧ u = .int .i64 (k : Int) ∧ L = (allB (T.take k)).length ∧ v = .slice A1 L c1 ∧ wr.ownsRow w.heap.size 5 1 (.slice A1 L c1) L (u8s (allB (T.take k))) ∧ Blk wr w.heap.size 41 (u8s (lastR (T.take k))).toArray ∧ Fr [] w wr)
  case atStart => exact ⟨0, 0, none, 0, by omega, by omega, rfl, rfl, rfl, World.ownsRow_nil _ _ _ _, HL1.out, F1.out⟩
  case round =>
    rename World => wr
    obtain ⟨k, L, A1, c1, hk, rfl, rfl, hL, rfl, ho, hl, hf⟩ := hrel
    have HO := Lib.hid ho; have HL := Lib.hid hl; have HF := Lib.hid hf; have HLL := Lib.hid hL
    clear ho hl hf hL
    by_cases hlt : k < n
    · obtain ⟨t, ht⟩ : ∃ t, T[k]? = some t := ⟨T[k]'(by have := HN.out; omega), by simp⟩
      obtain ⟨bA, oA, A2, c2, hA, hbA, hca, hra⟩ := HT.out k t ht
      have htk : T.take (k + 1) = T.take k ++ [t] := by rw [List.take_add_one, ht]; rfl
      have htl : (T.take k).length = k := by rw [List.length_take]; have := HN.out; omega
      have hla : lastR (T.take (k + 1)) = sumR (lastR (T.take k)) k t := by rw [htk, lastR_snoc, htl]
      have hal : allB (T.take (k + 1)) = allB (T.take k) ++ recB (lastR (T.take k)) k t := by rw [htk, allB_snoc, htl]
      have hle := allB_take_le T (k + 1)
      have hts := HS.out t (List.mem_of_getElem? ht)
      have hrl := recB_length (lastR (T.take k)) k t hts
      have hlp := lastR_length (T.take k)
      obtain ⟨lp, hlpe⟩ : ∃ x, lastR (T.take k) = x := ⟨_, rfl⟩
      rw [hlpe] at hlp HL hla hal hrl
      obtain ⟨m, hm⟩ : ∃ m, t.length = m := ⟨_, rfl⟩
      rw [hm] at hts hca hrl
      obtain ⟨N, hN⟩ : ∃ N, 64 * needN m = N := ⟨_, rfl⟩
      rw [hN] at hrl
      have hLN : L + N ≤ 100000000 := by
        have h1 := HBIG.out
        rw [hal, List.length_append, hrl, ← HLL.out] at hle
        omega
      have HAL := Lib.hid hal; have HLA := Lib.hid hla; have HRL := Lib.hid hrl; have HLP := Lib.hid hlp
      have HCA := Lib.hid (fun w9 (h9 : OldW w w9) => (show w9.cell? ⟨bA, oA + k, none⟩ = some (.slice A2 m c2) from by rw [Fr.cell h9 (p := ⟨bA, oA + k, none⟩) hbA (by simp)]; exact hca))
      have HSC := Lib.hid (fun W (h9 : OldW w W) => (hN ▸ sectors08_calls W lp hlp k (by omega) A2 m c2 t hm (Rd.fr hra h9 (by simp)) (by omega) : Calls Try.prog 30 #[.agg (u8s lp).toArray, .int .i64 (k : Int), .slice A2 m c2] W (OwnRN W N (recB lp k t))))
      have HSM := Lib.hid (fun W (h9 : OldW w W) => rsum08_calls W lp hlp k (by omega) A2 m c2 t hm (Rd.fr hra h9 (by simp)) (by omega))
      subst hA
      have HIA := Lib.hid (fun w' => ix_sl0 (P := Try.prog) (b := bA) (off := oA) (n := n) (c := c) Try.underlying25 size_sl hlt w')
      have HD1 := Lib.hid (digF lp hlp); have HD2 := Lib.hid (digF (sumR lp k t) (sumR_length _ _ _))
      have HSP := Lib.hid (splice_whole lp (sumR lp k t) hlp (sumR_length _ _ _))
      have HFT := Lib.hid (show 0 + (u8s (sumR lp k t)).length ≤ (u8s lp).length by simp [hlp, sumR_length])
      have hkI : (0 : Int) ≤ (k : Int) ∧ (k : Int) < (n : Int) := by omega
      clear hca ht hra hbA hlp hlpe hts hm hN hal hla hrl htk htl hle
      go_wp2_with fail
      have hS0 : OldW w wr.drew := HF.out.trans (Fr.refl [] wr).drew
      have HL0 := Lib.hid (HL.out.drew)
      refine sqo_begin (w0 := w) (by kernel_rfl) ?_
      refine sqo_take (i := 0) (v := (.slice A1 L c1)) (d := 12) rfl (by kernel_rfl) (by kernel_rfl) (by kernel_rfl) (by kernel_rfl) (by kernel_rfl) (fun _ _ _ h => h) ?_ (by assumption) ?_
      · intro w9 h9; kernel_rfl
      try simp only [Act.put, List.setIfInBounds_toArray, List.set_cons_zero, List.set_cons_succ]
      refine sqo_take (i := 2) (v := (.int .i64 (k : Int))) (d := 14) rfl (by kernel_rfl) (by kernel_rfl) (by kernel_rfl) (by kernel_rfl) (by kernel_rfl) (fun _ _ _ h => h) ?_ (by assumption) ?_
      · intro w9 h9; kernel_rfl
      try simp only [Act.put, List.setIfInBounds_toArray, List.set_cons_zero, List.set_cons_succ]
      refine sqo_take (i := 3) (v := (.slice (some ⟨bA, oA, none⟩) n c)) (d := 15) rfl (by kernel_rfl) (by kernel_rfl) (by kernel_rfl) (by kernel_rfl) (by kernel_rfl) (fun _ _ _ h => h) ?_ (by assumption) ?_
      · intro w9 h9; kernel_rfl
      try simp only [Act.put, List.setIfInBounds_toArray, List.set_cons_zero, List.set_cons_succ]
      refine sqo_take (i := 4) (v := (.int .i64 (k : Int))) (d := 16) rfl (by kernel_rfl) (by kernel_rfl) (by kernel_rfl) (by kernel_rfl) (by kernel_rfl) (fun _ _ _ h => h) ?_ (by assumption) ?_
      · intro w9 h9; kernel_rfl
      try simp only [Act.put, List.setIfInBounds_toArray, List.set_cons_zero, List.set_cons_succ]
      refine sqo_take (i := 5) (v := (.pointer (some ⟨bA, oA + k, none⟩))) (d := 17) rfl (by kernel_rfl) (by kernel_rfl) (by kernel_rfl) (by kernel_rfl) (by kernel_rfl) (fun _ _ _ h => h) ?_ (by assumption) ?_
      · intro w9 h9; exact ex_ixa rfl (by kernel_rfl) (by kernel_rfl) (HIA.out w9)
      try simp only [Act.put, List.setIfInBounds_toArray, List.set_cons_zero, List.set_cons_succ]
      refine sqo_take (i := 6) (v := (.slice A2 m c2)) (d := 18) rfl (by kernel_rfl) (by kernel_rfl) (by kernel_rfl) (by kernel_rfl) (by kernel_rfl) (fun _ _ _ h => h) ?_ (by assumption) ?_
      · intro w9 h9; exact exec_load_one rfl (by kernel_rfl) (.slice A2 m c2) (.slice 5) w9 (HCA.out w9 h9) Try.underlying26 rfl
      try simp only [Act.put, List.setIfInBounds_toArray, List.set_cons_zero, List.set_cons_succ]
      refine sqo_only (i := 1) rfl (by kernel_rfl) (by kernel_rfl) ?_
      have hr1 := fun (a₀ : Act) (o₀ : Oper) (K₀ : Act → World → Prop) (Q₀ : Exit → Act → World → Prop) => @sq_val Try.prog Q₀ a₀ o₀ wr.drew K₀ (.agg (u8s lp).toArray) wr.drew 13
      refine hr1 _ _ _ _ ?_ ?_ ?_
      · kernel_rfl
      · exact exec_load_agg rfl w.heap.size 0 (by kernel_rfl) (u8s lp) _ (rd_row HL0.out) Try.underlying41 rfl HD1.out.2.1
      clear hr1
      refine ⟨hS0, ?_⟩
      try simp only [Act.put, List.setIfInBounds_toArray, List.set_cons_zero, List.set_cons_succ]
      refine sqo_only (i := 7) rfl (by kernel_rfl) (by kernel_rfl) ?_
      have hr7 := fun (a₀ : Act) (o₀ : Oper) (K₀ : Act → World → Prop) (Q₀ : Exit → Act → World → Prop) => @sq_call Try.prog Q₀ a₀ o₀ wr.drew K₀ (OwnRN wr.drew N (recB lp k t)) 30 #[.agg (u8s lp).toArray, .int .i64 (k : Int), .slice A2 m c2] 19
      refine hr7 _ _ _ _ ?_ ?_ ?_ ?_
      · kernel_rfl
      · kernel_rfl
      · exact (HSC.out wr.drew hS0)
      rintro e w5 ⟨A5, c5, rfl, ho5, f5⟩
      have hS1 := OldW.step hS0 f5
      have HL5 := Lib.hid (HL0.out.fr f5 (by simp))
      have HO5 := Lib.hid (own_fr (own_fr HO.out (Fr.refl [] wr).drew (by simp)) f5 (by simp))
      have HR5 := Lib.hid (own_rn ho5)
      clear f5 ho5
      refine ⟨_, rfl, hS1, ?_⟩
      clear hr7
      try simp only [Act.put, List.setIfInBounds_toArray, List.set_cons_zero, List.set_cons_succ]
      refine sqo_only (i := 8) rfl (by kernel_rfl) (by kernel_rfl) ?_
      have hr8 := fun (a₀ : Act) (o₀ : Oper) (K₀ : Act → World → Prop) (Q₀ : Exit → Act → World → Prop) hgd hd ho hs hx => @sq_appU8 Q₀ o₀ a₀ w5 K₀ hgd (.tmp 12) (.tmp 19) 20 hd ho w.heap.size (.slice A1 L c1) L (allB (T.take k)) hs HO5.out A5 N c5 (recB lp k t) hx HRL.out HR5.out (by omega) hS1.size
      refine hr8 _ _ _ _ ?_ ?_ ?_ ?_ ?_ ?_
      · kernel_rfl
      · kernel_rfl
      · kernel_rfl
      · kernel_rfl
      · kernel_rfl
      intro A6 c6 w6 ho6 f6
      clear hr8
      have hS2 : OldW w w6 := Fr.trans' hS1 f6 (fun q hq => .inr (HO5.out.lt q (by simpa using hq)).1)
      have HL6 := Lib.hid (OldW.y_fr HL5.out HO5.out (by decide) f6)
      have HO6 := Lib.hid ho6
      refine ⟨hS2, ?_⟩
      try simp only [Act.put, List.setIfInBounds_toArray, List.set_cons_zero, List.set_cons_succ]
      refine sqo_take (i := 9) (v := (.slice A6 (L + N) c6)) (d := 3) rfl (by kernel_rfl) (by kernel_rfl) (by kernel_rfl) (by kernel_rfl) (by kernel_rfl) (fun _ _ _ h => h) ?_ (by assumption) ?_
      · intro w9 h9; kernel_rfl
      try simp only [Act.put, List.setIfInBounds_toArray, List.set_cons_zero, List.set_cons_succ]
      refine wpAnyH_done (by kernel_rfl) ?_ _
      have HF6 := Lib.hid hS2
      clear hS0 hS1 hS2 f6 ho6
      go_wp2_with fail
      have hS0 : OldW w w6.drew := HF6.out.trans (Fr.refl [] w6).drew
      have HL0 := Lib.hid (HL6.out.drew)
      refine sqo_begin (w0 := w) (by kernel_rfl) ?_
      refine sqo_take (i := 1) (v := (.int .i64 (k : Int))) (d := 22) rfl (by kernel_rfl) (by kernel_rfl) (by kernel_rfl) (by kernel_rfl) (by kernel_rfl) (fun _ _ _ h => h) ?_ (by assumption) ?_
      · intro w9 h9; kernel_rfl
      try simp only [Act.put, List.setIfInBounds_toArray, List.set_cons_zero, List.set_cons_succ]
      refine sqo_take (i := 2) (v := (.slice (some ⟨bA, oA, none⟩) n c)) (d := 23) rfl (by kernel_rfl) (by kernel_rfl) (by kernel_rfl) (by kernel_rfl) (by kernel_rfl) (fun _ _ _ h => h) ?_ (by assumption) ?_
      · intro w9 h9; kernel_rfl
      try simp only [Act.put, List.setIfInBounds_toArray, List.set_cons_zero, List.set_cons_succ]
      refine sqo_take (i := 3) (v := (.int .i64 (k : Int))) (d := 24) rfl (by kernel_rfl) (by kernel_rfl) (by kernel_rfl) (by kernel_rfl) (by kernel_rfl) (fun _ _ _ h => h) ?_ (by assumption) ?_
      · intro w9 h9; kernel_rfl
      try simp only [Act.put, List.setIfInBounds_toArray, List.set_cons_zero, List.set_cons_succ]
      refine sqo_take (i := 4) (v := (.pointer (some ⟨bA, oA + k, none⟩))) (d := 25) rfl (by kernel_rfl) (by kernel_rfl) (by kernel_rfl) (by kernel_rfl) (by kernel_rfl) (fun _ _ _ h => h) ?_ (by assumption) ?_
      · intro w9 h9; exact ex_ixa rfl (by kernel_rfl) (by kernel_rfl) (HIA.out w9)
      try simp only [Act.put, List.setIfInBounds_toArray, List.set_cons_zero, List.set_cons_succ]
      refine sqo_take (i := 5) (v := (.slice A2 m c2)) (d := 26) rfl (by kernel_rfl) (by kernel_rfl) (by kernel_rfl) (by kernel_rfl) (by kernel_rfl) (fun _ _ _ h => h) ?_ (by assumption) ?_
      · intro w9 h9; exact exec_load_one rfl (by kernel_rfl) (.slice A2 m c2) (.slice 5) w9 (HCA.out w9 h9) Try.underlying26 rfl
      try simp only [Act.put, List.setIfInBounds_toArray, List.set_cons_zero, List.set_cons_succ]
      refine sqo_only (i := 0) rfl (by kernel_rfl) (by kernel_rfl) ?_
      have hr0 := fun (a₀ : Act) (o₀ : Oper) (K₀ : Act → World → Prop) (Q₀ : Exit → Act → World → Prop) => @sq_val Try.prog Q₀ a₀ o₀ w6.drew K₀ (.agg (u8s lp).toArray) w6.drew 21
      refine hr0 _ _ _ _ ?_ ?_ ?_
      · kernel_rfl
      · exact exec_load_agg rfl w.heap.size 0 (by kernel_rfl) (u8s lp) _ (rd_row HL0.out) Try.underlying41 rfl HD1.out.2.1
      clear hr0
      refine ⟨hS0, ?_⟩
      try simp only [Act.put, List.setIfInBounds_toArray, List.set_cons_zero, List.set_cons_succ]
      refine sqo_only (i := 6) rfl (by kernel_rfl) (by kernel_rfl) ?_
      have hr6 := fun (a₀ : Act) (o₀ : Oper) (K₀ : Act → World → Prop) (Q₀ : Exit → Act → World → Prop) => @sq_call Try.prog Q₀ a₀ o₀ w6.drew K₀ (Agg (.agg (u8s (sumR lp k t)).toArray) w6.drew) 31 #[.agg (u8s lp).toArray, .int .i64 (k : Int), .slice A2 m c2] 27
      refine hr6 _ _ _ _ ?_ ?_ ?_ ?_
      · kernel_rfl
      · kernel_rfl
      · exact (HSM.out w6.drew hS0)
      rintro e w7 ⟨rfl, f9⟩
      have hS1 := OldW.step hS0 f9
      have HL7 := Lib.hid (HL0.out.fr f9 (by simp))
      have HO7' := Lib.hid (own_fr (own_fr HO6.out (Fr.refl [] w6).drew (by simp)) f9 (by simp))
      clear f9
      refine ⟨_, rfl, hS1, ?_⟩
      clear hr6
      try simp only [Act.put, List.setIfInBounds_toArray, List.set_cons_zero, List.set_cons_succ]
      refine sqo_only (i := 7) rfl (by kernel_rfl) (by kernel_rfl) ?_
      have hr7 := fun (a₀ : Act) (o₀ : Oper) (K₀ : Act → World → Prop) (Q₀ : Exit → Act → World → Prop) => @sq_store Try.prog Q₀ a₀ o₀ w7 K₀ 41 (.tmp 4) (.tmp 27) w.heap.size 0 (u8s (sumR lp k t)) (u8s lp) 41
      refine hr7 _ _ _ _ ?_ ?_ ?_ ?_ ?_ ?_ ?_ ?_ ?_
      · kernel_rfl
      · kernel_rfl
      · kernel_rfl
      · kernel_rfl
      · exact HL7.out
      · exact HFT.out
      · exact u8s_one _
      · exact HD2.out.2.1
      clear hr7
      rw [HSP.out]
      refine ⟨(Fr.setRow hS1 (.inr (Nat.le_refl _)) _), ?_⟩
      try simp only [Act.put, List.setIfInBounds_toArray, List.set_cons_zero, List.set_cons_succ]
      refine wpAnyH_done (by kernel_rfl) ?_ _
      have HF7 := Lib.hid hS1
      have HO7 := Lib.hid (own_fr HO7'.out ((Fr.refl [w.heap.size] w7).setRow (g := w.heap.size) (.inl (by simp)) (u8s (sumR lp k t)).toArray) (fun q hq hm => own_blk_ne HO7'.out HL7.out (by decide) (by simp at hm; rw [← hm]; exact hq)))
      clear hS0 hS1
      go_wp2_with fail
      go_roundg (n - (k + 1))
      case measure => omega
      case rel => exact ⟨k + 1, L + N, A6, c6, by omega, rfl, by go_num, by rw [HAL.out, List.length_append, HRL.out, ← HLL.out], rfl, by rw [HAL.out]; exact HO7.out, by rw [HLA.out]; exact HL7.out.setRow_ _, Fr.setRow HF7.out (.inr (Nat.le_refl _)) _⟩
    · obtain rfl : k = n := by omega
      have HE := Lib.hid (show T.take k = T from List.take_of_length_le (by have := HN.out; omega))
      have ho := HO.out
      have hL := HLL.out
      rw [HE.out] at ho hL
      subst hL
      have HO := Lib.hid ho
      clear ho
      go_wp2_with fail
      go_ret
      exact ⟨A1, c1, rfl, HO.out, HF.out⟩
end Go.Proofs.Ytmmjihkcofgmmaa

/- The log: a law's own bytes change. -/
namespace Go.Proofs.Ytmmjihkcofgmmaa
open Go.RowKit
set_option linter.unusedVariables false

/-- the law's state between two steps -/
structure DJ (w wr : World) (p g N : Nat) (s : Dk.DS) (T : List (List UInt8)) (x : Nat) (lv va : Value) (D : List Nat) (base : Nat) : Prop where
  log : LS w wr x p g N N s lv T false D base
  row : ARow w wr va T
  hD : ∀ q, va.ownBlock = some q → q ∈ D
  hne : ∀ q, lv.ownBlock = some q → va.ownBlock ≠ some q
  good : Good N s.bs T
  alive : s.dead = false
theorem LS.grow {W0 w w' : World} {x p g n cap : Nat} {s : Dk.DS} {lv : Value} {T : List (List UInt8)} {br : Bool} {D : List Nat} {base y : Nat} (h : LS W0 w x p g n cap s lv T br D base) (hf : Fr [] w w') (h1 : w.heap.size ≤ y) (h2 : y < w'.heap.size) : LS W0 w' x p g n cap s lv T br (y :: D) base :=
  ⟨h.log.grow hf h1 h2, h.fr.trans hf, h.hx, h.hp, h.hg, h.hb⟩
theorem LS.frB {W0 w w' : World} {x p g n cap : Nat} {s : Dk.DS} {lv : Value} {T : List (List UInt8)} {br : Bool} {D : List Nat} {base y : Nat} {cs : Array Value} (h : LS W0 w x p g n cap s lv T br D base) (hb : Blk w y 5 cs) (hy : y ∈ D) (hw : W0.heap.size ≤ y) (hf : Fr [y] w w') : LS W0 w' x p g n cap s lv T br D base := by
  obtain ⟨rest, hr⟩ := h.log.disk.rows
  obtain ⟨vs, _, h2, _⟩ := h.log.rows
  have hx : x ∉ [y] := fun hm => Blk.ne_ h.log.head hb (by decide) (by simpa using hm)
  have hp : p ∉ [y] := fun hm => Blk.ne_ h.log.disk.head hb (by decide) (by simpa using hm)
  have hg : g ∉ [y] := fun hm => Blk.ne_ hr hb (by decide) (by simpa using hm)
  exact ⟨{ head := LogB.fr h.log.head hf hx, disk := h.log.disk.fr hf hp hg, rows := h.log.rows.fr hf (fun q hq => .inl (by simp at hq; subst hq; exact hy)) (fun q hq hm => by simp at hm; subst hm; exact own_blk_ne h2 hb (by decide) hq), hk := h.log.hk, hT := h.log.hT, hs := h.log.hs, hx := h.log.hx, hp := h.log.hp, hg := h.log.hg, hD := fun q hq => Nat.lt_of_lt_of_le (h.log.hD q hq) hf.size, hb := Nat.le_trans h.log.hb hf.size },
    h.fr.trans' hf (fun q hq => .inr (by simp at hq; omega)), h.hx, h.hp, h.hg, h.hb⟩
theorem ARow.frB {W0 w w' : World} {v : Value} {T : List (List UInt8)} {y : Nat} {cs : Array Value} (h : ARow W0 w v T) (hb : Blk w y 5 cs) (hf : Fr [y] w w') : ARow W0 w' v T :=
  h.fr hf (fun q hq hm => by simp at hm; subst hm; exact h.ne hb (by decide) hq)
theorem exec_conv_m {P : Program} {a : Act} {o : Oper} {w : World} {src dst : TypeId} {x : Operand} (ho : o.op = .convert src dst x) {e : TypeId} (hu : P.underlying src = some (.slice e)) (he : P.underlying e = some (.int .u8)) (ht : P.underlying dst = some .string) {A : Option Addr} {n c : Nat} {l : List UInt8} (hn : l.length = n) (hx : a.eval x = .slice A n c) (hr : Rd w A l) : (execOp a.eval o).run P w = .ok (.value (.string (str l))) w := by
  subst hn
  exact exec_conv_str ho hu he ht hx hr
theorem tdiv64 (K : Nat) : ((64 * K : Nat) : Int).tdiv 64 = (K : Int) := (show ((64 * K : Nat) : Int).tdiv 64 = ((64 * K / 64 : Nat) : Int) from rfl).trans (by omega)
theorem TxRow.inB {w : World} {A : Option Addr} {n c : Nat} {D : List Nat} {base : Nat} {T : List (List UInt8)} (h : TxRow w (.slice A n c) D base T) : TxIn w A T := by
  obtain ⟨A', c', hv, _, hT⟩ := h.toIn
  injection hv with hv
  subst hv
  exact hT
theorem ARow.inB {W0 w : World} {A : Option Addr} {n c : Nat} {T : List (List UInt8)} (h : ARow W0 w (.slice A n c) T) (hf : Fr [] W0 w) : TxIn w A T := by
  obtain ⟨A', c', hv, hT⟩ := h.toIn hf
  injection hv with hv
  subst hv
  exact hT
theorem Good.stopAt {n : Nat} {bs : List UInt8} {T : List (List UInt8)} (h : Good n bs T) (hk : kT T < n) : bs[64 * kT T + 63]? = some 0 := by
  have h1 := h.stop.resolve_left (by omega)
  have h2 : (secAt bs (kT T))[63]? = bs[64 * kT T + 63]? := by rw [secAt_get, if_pos (by omega)]
  rw [List.getD_eq_getElem?_getD, h2, List.getElem?_eq_getElem (by have := h.len; omega)] at h1
  rw [List.getElem?_eq_getElem (by have := h.len; omega)]
  simpa using h1
def wrapU8 (t : UInt8) : Int := ((t.toNat : Int) + 1) % 256
theorem wrapU8_eq (t : UInt8) : wrapU8 t = ((t + 1).toNat : Int) := by
  unfold wrapU8
  rw [UInt8.toNat_add]
  have : (1 : UInt8).toNat = 1 := rfl
  omega
theorem u8s_setA (bs : List UInt8) (k : Nat) (t : UInt8) (hk : k < bs.length) {tl : List Value} : ((u8s bs ++ tl).toArray.setIfInBounds k (.int .u8 (t.toNat : Int))) = (u8s (bs.set k t) ++ tl).toArray := by
  rw [List.setIfInBounds_toArray]
  congr 1
  rw [List.set_append_left _ _ (by rw [u8s_length]; exact hk)]
  congr 1
  simp [u8s, List.map_set]
end Go.Proofs.Ytmmjihkcofgmmaa
