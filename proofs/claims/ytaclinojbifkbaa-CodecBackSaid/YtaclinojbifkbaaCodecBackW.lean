/- The walk of CodecBack. -/
import Derived.Test.YtaclinojbifkbaaCodecDig
import Derived.Test.YtaclinojbifkbaaCodecParts
import Derived.Deep.CutBlock
import Derived.Deep.RegionHeld3
namespace Go.Proofs.Ytaclinojbifkbaa
open Go.RowKit

def evB (o : CPart) : Bool := o.n.tmod 2 == 0
def partB (o : CPart) : List UInt8 := [o.x] ++ ([if evB o then 1 else 0] ++ (numB o.v ++ ((countB o.b.length ++ o.b) ++ (o.d ++ rowB o.r))))
def allB (l : List CPart) : List UInt8 := l.flatMap partB
theorem allB_snoc (l : List CPart) (j : Nat) (o : CPart) (h : l[j]? = some o) : allB (l.take (j + 1)) = allB (l.take j) ++ partB o := by
  have hj := (List.getElem?_eq_some_iff.1 h)
  obtain ⟨hj, he⟩ := hj
  rw [List.take_succ_eq_append_getElem hj, allB, List.flatMap_append, he]
  simp [allB]
theorem allB_cons (l : List CPart) (j : Nat) (o : CPart) (h : l[j]? = some o) : allB (l.drop j) = partB o ++ allB (l.drop (j + 1)) := by
  obtain ⟨hj, he⟩ := List.getElem?_eq_some_iff.1 h
  rw [List.drop_eq_getElem_cons hj, he]
  simp [allB]
structure CellsAt (w : World) (b off : Nat) (o : CPart) : Prop where
  c1 : w.cell? ⟨b, off + 1, none⟩ = some (.int .u8 (o.x.toNat : Int))
  c2 : w.cell? ⟨b, off + 2, none⟩ = some (.int .i64 o.n)
  c3 : w.cell? ⟨b, off + 3, none⟩ = some (.int .i64 o.v)
  c4 : w.cell? ⟨b, off + 4, none⟩ = some (.slice o.bA o.b.length o.bC)
  c5 : ∀ j v, (u8s o.d)[j]? = some v → w.cell? ⟨b, off + 5 + j, none⟩ = some v
  c37 : w.cell? ⟨b, off + 37, none⟩ = some (.slice o.rA o.r.length o.rC)
theorem PartAt.cells_ {w w' : World} {b off : Nat} {o : CPart} (h : PartAt w b off o) (hb : b < w.heap.size) (hf : Fr [] w w') : CellsAt w' b off o := by
  have hc : ∀ j v, o.cells[j]? = some v → w'.cell? ⟨b, off + j, none⟩ = some v := fun j v hv => by
    rw [hf.cell (p := ⟨b, off + j, none⟩) hb (by simp)]; exact h.cs j v hv
  refine ⟨hc 1 _ rfl, hc 2 _ rfl, hc 3 _ rfl, hc 4 _ rfl, fun j v hv => ?_, hc 37 _ ?_⟩
  · rw [Nat.add_assoc]
    refine hc (5 + j) v ?_
    have hj : j < 32 := by have := (List.getElem?_eq_some_iff.1 hv).1; simpa [h.dl] using this
    unfold CPart.cells
    rw [List.getElem?_append_left (by simp [h.dl]; omega), List.getElem?_append_right (by simp)]
    simpa using hv
  · simp [CPart.cells, List.getElem?_append_right, h.dl]

theorem wr_text {w0 w : World} {p : Nat} {ob : List Nat} {bs : List UInt8} {er : Int} (h : Wr w0 w p ob bs er) (RA : Option Addr) (rc : Nat) (r : List UInt8) (hr : Rd w0 RA r) (hn : r.length ≤ 1000) (hbd : bs.length + 4000 ≤ 1000000000) :
    Calls Try.prog 8 #[.pointer (some ⟨p, 0, none⟩), .slice RA r.length rc] w (WrOut w0 w p ob (bs ++ (countB r.length ++ r)) er) := by
  have hs := h.fr_.size
  have hp := h.new_
  exact h.op (text_calls w p ob bs er h.is_ RA r.length rc r rfl (hr.fr h.fr_ (by simp)) (fun hl b off hb => by
      have := hr.blk_lt hl b off hb
      exact ⟨by omega, fun hm => by have := (h.obs b hm).1; omega, by omega⟩) (by omega) (by omega))
theorem wr_row {w0 w : World} {p : Nat} {ob : List Nat} {bs : List UInt8} {er : Int} (h : Wr w0 w p ob bs er) (RA : Option Addr) (rc : Nat) (r : List Int) (hr : RdI w0 RA r) (hrb : ∀ x ∈ r, -9223372036854775808 ≤ x ∧ x ≤ 9223372036854775807) (hn : r.length ≤ 255) (hbd : bs.length + 4000 ≤ 1000000000) :
    Calls Try.prog 20 #[.pointer (some ⟨p, 0, none⟩), .slice RA r.length rc] w (WrOut w0 w p ob (bs ++ rowB r) er) := by
  have hs := h.fr_.size
  have hp := h.new_
  exact h.op (row_yes w p ob bs er h.is_ RA rc r (hr.fr h.fr_ (by simp)) hrb (fun hl b off hb => by
      have := hr.blk_lt' hl b off hb
      exact ⟨by omega, fun hm => by have := (h.obs b hm).1; omega, by omega⟩) hn (by omega))
theorem partB_length (o : CPart) (hd : o.d.length = 32) (hb : o.b.length ≤ 500) (hr : o.r.length ≤ 255) : (partB o).length ≤ 3000 := by
  simp only [partB, List.length_append, List.length_cons, List.length_nil, numB_length, countB_length, rowB_length, hd]
  omega
theorem allB_drop_le (l : List CPart) (k : Nat) : (allB (l.drop k)).length ≤ (allB l).length := by
  have : allB l = allB (l.take k) ++ allB (l.drop k) := by
    rw [allB, allB, allB, ← List.flatMap_append, List.take_append_drop]
  rw [this, List.length_append]; omega
theorem partB_split (o : CPart) (R : List UInt8) : partB o ++ R = o.x :: ((if evB o then 1 else 0) :: (numB o.v ++ (countB o.b.length ++ (o.b ++ (o.d ++ (rowB o.r ++ R)))))) := by
  simp [partB]
theorem partB_assoc (bs : List UInt8) (o : CPart) : bs ++ [o.x] ++ [if evB o then 1 else 0] ++ numB o.v ++ (countB o.b.length ++ o.b) ++ o.d ++ rowB o.r = bs ++ partB o := by
  simp [partB]

set_option maxHeartbeats 4000000 in
set_option maxRecDepth 100000 in
theorem back_walk (w : World) (A : Option Addr) (ca : Nat) (l : List CPart) (hA : PartsIn w A l) (hl : l.length ≤ maxLen) :
    Calls Try.prog 6 #[.slice A l.length ca] w (Quiet (.bool true) w) := by
  have hlm := hl
  unfold maxLen at hlm
  have HA := Lib.hid (alive_calls w)
  have HL := Lib.hid hA
  clear hA
  go_enter Try.func6, Try.ntmps6
  go_wp2_with (go_at_call 7; (with_reducible refine HA.out.mono ?_); rintro e w1 ⟨rfl, f1⟩; have W1 := Lib.hid (Wr.new f1); clear f1)
  obtain ⟨p, hp⟩ : ∃ p, w1.heap.size = p := ⟨_, rfl⟩
  rw [hp] at W1 ⊢
  have HP := Lib.hid hp
  clear hp
  obtain ⟨n, hn1, hn2, hn3⟩ : ∃ n, n ≤ l.length ∧ n ≤ 40 ∧ (n = l.length ∨ n = 40) := ⟨min l.length 40, by omega, by omega, by omega⟩
  go_loopg [4] n (fun gg u wr => ∃ (j : Nat) (ob : List Nat), j ≤ n ∧ gg = n - j ∧ u = .int .i64 j ∧ Wr w wr p ob (allB (l.take j)) 0 ∧ (allB (l.take j)).length ≤ 3000 * j ∧ ∀ i o, i < j → l[i]? = some o → o.b.length ≤ 500 ∧ o.r.length ≤ 255)
  case atStart => exact ⟨0, [], by omega, by omega, rfl, by simpa [allB] using W1.out, by simp [allB], by intro i o hi; omega⟩
  case round =>
    obtain ⟨j, ob, hj, rfl, rfl, hw, hbl, hpre⟩ := hrel
    have HW := Lib.hid hw; have HPRE := Lib.hid hpre
    have hPs := HL.out
    clear hw hpre
    go_upto_region 5 with fail
    go_cut [24] (fun v wc => wr = wc ∧ ∃ c : Bool, v = .bool c ∧ (c = true ↔ j < n))
    case first =>
      by_cases hlt1 : j < l.length
      · by_cases hlt2 : j < 40
        · go_wp2_with fail
          go_meet
          exact ⟨rfl, _, rfl, by simp [hlt1]; omega⟩
        · go_wp2_with fail
          go_meet
          exact ⟨rfl, _, rfl, by simp; omega⟩
      · go_wp2_with fail
        go_meet
        exact ⟨rfl, _, rfl, by simp [hlt1]; omega⟩
    case rest =>
    obtain ⟨rfl, cc, rfl, hc⟩ := hcut
    have HCC := Lib.hid hc
    clear hc
    cases cc with
    | true =>
      have hltn := HCC.out.1 rfl
      have hlt : j < l.length := by omega
      obtain ⟨o, ho⟩ : ∃ o, l[j]? = some o := ⟨l[j], by simp⟩
      obtain ⟨b, off, hAe, hbw, hat⟩ := hPs j o ho
      have HAT := Lib.hid hat
      have HC : Hid (∀ w', Fr [] w w' → CellsAt w' b (off + j * 39) o) := Lib.hid (fun w' hf => hat.cells_ hbw hf)
      have hidx := fun w => run_index_slice' (P := Try.prog) w Try.underlying36 part_size (n := l.length) (c := ca) hAe hlt
      have HO := Lib.hid ho
      clear hat ho hPs hAe hbw
      have e4 := (HC.out wr HW.out.fr_).c4
      have e37 := (HC.out wr HW.out.fr_).c37
      by_cases hB : 500 < o.b.length
      · have hB' : (500 : Int) < (o.b.length : Int) := by omega
        go_wp2_with fail
        go_ret
        exact ⟨rfl, HW.out.fr_⟩
      · have hB' : (o.b.length : Int) ≤ 500 := by omega
        by_cases hR : 255 < o.r.length
        · have hR' : (255 : Int) < (o.r.length : Int) := by omega
          go_wp2_with fail
          go_ret
          exact ⟨rfl, HW.out.fr_⟩
        · have hR' : (o.r.length : Int) ≤ 255 := by omega
          have e1 := (HC.out wr HW.out.fr_).c1
          have hbd : (allB (l.take j)).length + 5000 ≤ 200000 := by omega
          have HBD := Lib.hid hbd
          clear hbd
          go_wp2_with fail
          refine (HW.out.op (byte_calls wr p ob _ 0 HW.out.is_ _ o.x rfl (by have := HBD.out; omega))).mono ?_
          rintro e w2 ⟨rfl, ob2, i2, _, _⟩
          have W2 := Lib.hid i2
          have e2 := (HC.out w2 i2.fr_).c2
          obtain ⟨tb, htb⟩ : ∃ tb, evB o = tb := ⟨_, rfl⟩
          have htb' : (o.n.tmod 2 == 0) = tb := htb
          have HTB := Lib.hid htb
          clear i2 e1 e4 e37 htb
          go_wp2_with fail
          refine (W2.out.op (truth_calls w2 p ob2 _ 0 W2.out.is_ tb (by have := HBD.out; simp; omega))).mono ?_
          rintro e w3 ⟨rfl, ob3, i3, _, _⟩
          have W3 := Lib.hid i3
          have e3 := (HC.out w3 i3.fr_).c3
          clear i3 e2 htb'
          go_wp2_with fail
          refine (W3.out.op (num_calls w3 p ob3 _ 0 W3.out.is_ o.v HAT.out.hv.1 HAT.out.hv.2 (by have := HBD.out; simp; omega))).mono ?_
          rintro e w4 ⟨rfl, ob4, i4, _, _⟩
          have W4 := Lib.hid i4
          have e4 := (HC.out w4 i4.fr_).c4
          clear i4 e3
          go_wp2_with fail
          refine (wr_text W4.out o.bA o.bC o.b HAT.out.hb (by omega) (by have := HBD.out; simp [numB_length]; omega)).mono ?_
          rintro e w5 ⟨rfl, ob5, i5, _, _⟩
          have W5 := Lib.hid i5
          have HDC := Lib.hid (HC.out w5 i5.fr_).c5
          have HD32 := Lib.hid HAT.out.dl
          clear i5 e4
          go_wp2_with (refine wpList_load_agg rfl 38 (.tmp 77) rfl b (off + j * 39 + 5) rfl (u8s o.d) _ HDC.out Try.underlying38 rfl (by rw [show (u8s o.d).length = 32 by simp [HD32.out]]; exact dig_size) ?_)
          refine (W5.out.op (digest_calls w5 p ob5 _ 0 W5.out.is_ o.d HD32.out (by have := HBD.out; simp [numB_length, countB_length]; omega))).mono ?_
          rintro e w6 ⟨rfl, ob6, i6, _, _⟩
          have W6 := Lib.hid i6
          have e37 := (HC.out w6 i6.fr_).c37
          clear i6
          go_wp2_with fail
          refine (wr_row W6.out o.rA o.rC o.r HAT.out.hr HAT.out.hri (by omega) (by have := HBD.out; simp [numB_length, countB_length, HD32.out]; omega)).mono ?_
          rintro e w7 ⟨rfl, ob7, i7, _, _⟩
          have e9 : allB (l.take j) ++ [o.x] ++ [if tb then 1 else 0] ++ numB o.v ++ (countB o.b.length ++ o.b) ++ o.d ++ rowB o.r = allB (l.take (j + 1)) := by
            rw [← HTB.out, partB_assoc, allB_snoc l j o HO.out]
          rw [e9] at i7
          have W7 := Lib.hid i7
          have hl9 : (allB (l.take (j + 1))).length ≤ 3000 * (j + 1) := by
            rw [allB_snoc l j o HO.out, List.length_append]
            have := partB_length o HD32.out (by omega) (by omega)
            omega
          have HL9 := Lib.hid hl9
          clear i7 e37 e9 hl9
          go_wp2_with fail
          go_roundg (n - (j + 1))
          case measure => omega
          case rel => exact ⟨j + 1, ob7, by omega, rfl, by go_num, W7.out, HL9.out, fun i o' hi ho' => by
            by_cases hij : i = j
            · subst hij
              have : o' = o := Option.some.inj (ho'.symm.trans HO.out)
              subst this
              exact ⟨by omega, by omega⟩
            · exact HPRE.out i o' (by omega) ho'⟩
    | false =>
      have hjn : j = n := by
        have : ¬ j < n := fun h => by have := HCC.out.2 h; simp at this
        omega
      subst hjn
      have HBD := Lib.hid hbl
      clear hPs hbl
      go_wp2_with fail
      refine (bytes_ok wr p ob _ HW.out.is_ _ rfl (by have := HBD.out; omega)).mono ?_
      rintro e w2 ⟨A2, c2, rfl, _, r2, _, _, f2⟩
      have R2 := Lib.hid r2; have F2 := Lib.hid (HW.out.fr_.trans f2)
      clear r2 f2
      go_wp2_with fail
      refine (newr_calls w2 A2 _ c2 _ rfl R2.out (by have := HBD.out; omega)).mono ?_
      rintro e w3 ⟨p2, g2, rfl, i3, hp2, hg2, f3⟩
      have I3 := Lib.hid i3; have F3 := Lib.hid (F2.out.trans f3)
      have P3 := Lib.hid (show w.heap.size ≤ p2 ∧ w.heap.size ≤ g2 by have := F2.out.size; omega)
      clear i3 f3 hp2 hg2
      go_wp2_with fail
      obtain ⟨wo, rfl⟩ : ∃ wo : World, wo = wr := ⟨_, rfl⟩
      go_loopg [6] j (fun gg u wr => ∃ (k : Nat), k ≤ j ∧ gg = j - k ∧ u = .int .i64 k ∧ IsR wr p2 g2 (allB ((l.take j).drop k)) 0 ∧ Fr [] w wr)
      case atStart => exact ⟨0, by omega, by omega, rfl, by simpa using I3.out, F3.out⟩
      case round =>
        obtain ⟨k, hk, rfl, rfl, hi, hf⟩ := hrel
        have HI := Lib.hid hi; have HF := Lib.hid hf
        clear hi hf
        have hPs := HL.out
        go_upto_region 17 with fail
        go_cut [97] (fun v wc => wr = wc ∧ ∃ c : Bool, v = .bool c ∧ (c = true ↔ k < j))
        case first =>
          by_cases hlt1 : k < l.length
          · by_cases hlt2 : k < 40
            · go_wp2_with fail
              go_meet
              exact ⟨rfl, _, rfl, by simp [hlt1]; omega⟩
            · go_wp2_with fail
              go_meet
              exact ⟨rfl, _, rfl, by simp; omega⟩
          · go_wp2_with fail
            go_meet
            exact ⟨rfl, _, rfl, by simp [hlt1]; omega⟩
        case rest =>
        obtain ⟨rfl, cc, rfl, hc⟩ := hcut
        have HCC := Lib.hid hc
        clear hc
        cases cc with
        | false =>
          have hkj : k = j := by
            have : ¬ k < j := fun h => by have := HCC.out.2 h; simp at this
            omega
          subst hkj
          have hi := HI.out
          rw [List.drop_eq_nil_of_le (by simp; omega)] at hi
          have HI2 := Lib.hid hi
          have HI3 := Lib.hid (fun (n : Nat) => hi.drewN n)
          clear hi hPs
          go_wp2_with fail
          refine (end_empty wr p2 g2 0 HI2.out).mono ?_
          rintro e w9 ⟨rfl, rfl⟩
          go_wp2_with fail
          refine (left_calls wr p2 g2 [] 0 HI2.out).mono ?_
          rintro e w9 ⟨rfl, rfl⟩
          go_wp2_with fail
          go_ret
          exact ⟨rfl, HF.out⟩
        | true =>
          have hltj := HCC.out.1 rfl
          have hlt : k < l.length := by omega
          obtain ⟨o, ho⟩ : ∃ o, l[k]? = some o := ⟨l[k], by simp⟩
          obtain ⟨b, off, hAe, hbw, hat⟩ := hPs k o ho
          have HAT := Lib.hid hat
          have HC : Hid (∀ w', Fr [] w w' → CellsAt w' b (off + k * 39) o) := Lib.hid (fun w' hf => hat.cells_ hbw hf)
          have hidx := fun w => run_index_slice' (P := Try.prog) w Try.underlying36 part_size (n := l.length) (c := ca) hAe hlt
          have HPR := Lib.hid (HPRE.out k o hltj ho)
          have ho2 : (l.take j)[k]? = some o := by rw [List.getElem?_take]; simp [hltj, ho]
          have hsz := allB_drop_le (l.take j) k
          have hi := HI.out
          rw [allB_cons _ k o ho2, partB_split] at hi
          rw [allB_cons _ k o ho2, partB_split] at hsz
          obtain ⟨R, hR⟩ : ∃ R, allB ((l.take j).drop (k + 1)) = R := ⟨_, rfl⟩
          rw [hR] at hi hsz
          have HR := Lib.hid hR
          have hsz2 : R.length + (rowB o.r).length + o.d.length + o.b.length + 3 + 8 + 1 + 1 ≤ 1000000 := by
            have := HBD.out
            simp only [List.length_cons, List.length_append, numB_length, countB_length] at hsz
            omega
          rw [rowB_length, HAT.out.dl] at hsz2
          have I0 := Lib.hid hi
          have SZ := Lib.hid hsz2
          obtain ⟨tb, htb⟩ : ∃ tb, evB o = tb := ⟨_, rfl⟩
          have htb' : (o.n.tmod 2 == 0) = tb := htb
          have HTB := Lib.hid htb'
          rw [htb] at I0
          clear hat ho ho2 hPs hAe hbw hi hR hsz hsz2 htb htb'
          go_wp2_with fail
          refine (rbyte_ok wr p2 g2 o.x _ I0.out (by have := SZ.out; simp [numB_length, countB_length, rowB_length, HAT.out.dl]; omega)).mono ?_
          rintro e w2 ⟨rfl, i2, f2⟩
          have I2 := Lib.hid i2; have F2 := Lib.hid f2; clear i2 f2
          go_wp2_with fail
          refine (rtruth_ok w2 p2 g2 tb _ I2.out (by have := SZ.out; simp [numB_length, countB_length, rowB_length, HAT.out.dl]; omega)).mono ?_
          rintro e w3 ⟨rfl, i3, f3⟩
          have I3 := Lib.hid i3; have F3 := Lib.hid (F2.out.trans f3); clear i3 f3
          go_wp2_with fail
          refine (rnum_ok w3 p2 g2 o.v HAT.out.hv.1 HAT.out.hv.2 _ I3.out (by have := SZ.out; simp [countB_length, rowB_length, HAT.out.dl]; omega)).mono ?_
          rintro e w4 ⟨rfl, i4, f4⟩
          have I4 := Lib.hid i4; have F4 := Lib.hid (F3.out.trans f4); clear i4 f4
          go_wp2_with fail
          refine (rtext_ok w4 p2 g2 o.b.length o.b _ I4.out rfl (by have := SZ.out; simp [rowB_length, HAT.out.dl]; omega) 500 (by have := HPR.out.1; omega) (by have := HPR.out.1; omega)).mono ?_
          rintro e w5 ⟨A5, c5, rfl, r5, b5, i5, f5⟩
          have I5 := Lib.hid i5; have F5 := Lib.hid (F4.out.trans f5); have R5 := Lib.hid r5; have B5 := Lib.hid b5
          have S5 := Lib.hid f5.size
          have L4 := Lib.hid I4.out.lt
          clear i5 f5 r5 b5
          go_wp2_with fail
          refine (rdigest_ok w5 p2 g2 o.d _ HAT.out.dl I5.out (by have := SZ.out; simp [rowB_length]; omega)).mono ?_
          rintro e w6 ⟨rfl, i6, f6⟩
          have I6 := Lib.hid i6; have F6 := Lib.hid (F5.out.trans f6)
          have R6 := Lib.hid (R5.out.fr f6 (fun b off hA => by have := B5.out b off hA; have := L4.out; simp; omega))
          clear i6 f6
          go_wp2_with fail
          refine (rrow_ok w6 p2 g2 o.r R I6.out HAT.out.hri (by have := HPR.out.2; omega) (by have := SZ.out; omega) 255 (by have := HPR.out.2; omega)).mono ?_
          rintro e w7 ⟨A7, c7, rfl, r7, _, i7, f7⟩
          have I7 := Lib.hid i7; have F7 := Lib.hid (F6.out.trans f7); have RR7 := Lib.hid r7
          have R7 := Lib.hid (R6.out.fr f7 (fun b off hA => by have := B5.out b off hA; have := L4.out; simp; omega))
          clear i7 f7 r7
          have HU := Lib.hid (show (u8s o.d).length = 32 by simp [HAT.out.dl])
          go_upto_region 20 with (first
            | (refine wpList_alloc_agg rfl 38 rfl zd.toArray dig_zero ?_)
            | (refine wpList_store_box rfl 38 (.tmp 11) (.tmp 109) rfl w7 zd (u8s o.d) rfl rfl rfl (by rw [HU.out]; rfl) (u8s_one o.d) (by rw [HU.out]; exact dig_size) ?_; intro w8 hb8 hf8; have B8 := Lib.hid hb8; have F8 := Lib.hid hf8; clear hb8 hf8))
          have hfw := (HF.out.trans' F7.out (fun x hx => .inr (by simp at hx; have := P3.out.1; omega))).trans F8.out
          have HFW := Lib.hid hfw
          have f1 := (HC.out w8 hfw).c1
          have f2 := (HC.out w8 hfw).c2
          have f3 := (HC.out w8 hfw).c3
          have f4 := (HC.out w8 hfw).c4
          have f37 := (HC.out w8 hfw).c37
          have htb := HTB.out
          have d32 := HAT.out.dl
          have dsz : (Try.prog.info? 38).map (·.size) = some (u8s o.d).length := by rw [HU.out]; exact dig_size
          have HDA : Hid (∀ nn j v, (u8s o.d)[j]? = some v → (w8.drewN nn).cell? ⟨w7.heap.size, 0 + j, none⟩ = some v) := Lib.hid (fun nn j v hv => by rw [(B8.out.drewN nn).cell, List.getElem?_toArray, Nat.zero_add]; exact hv)
          have HDB : Hid (∀ nn j v, (u8s o.d)[j]? = some v → (w8.drewN nn).cell? ⟨b, off + k * 39 + 5 + j, none⟩ = some v) := Lib.hid (fun nn => (HC.out (w8.drewN nn) (HFW.out.drewN nn)).c5)
          have cvA : ∀ nn, (convert 22 9 (.slice A5 o.b.length c5)).run Try.prog (w8.drewN nn) = .ok (.string (str o.b)) (w8.drewN nn) := fun nn => conv_n rfl (R7.out.fr (F8.out.drewN nn) (by simp))
          have cvB : ∀ nn, (convert 22 9 (.slice o.bA o.b.length o.bC)).run Try.prog (w8.drewN nn) = .ok (.string (str o.b)) (w8.drewN nn) := fun nn => conv_n rfl (HAT.out.hb.fr (HFW.out.drewN nn) (by simp))
          have HSM := Lib.hid (same_calls w8.drew A7 o.rA c7 o.rC o.r o.r.length o.r.length rfl rfl (RR7.out.fr F8.out.drew (by simp)) (HAT.out.hr.fr HFW.out.drew (by simp)) (by have := HPR.out.2; omega))
          have hst := str_toList
          clear hfw
          go_cut [168] (fun v w9 => v = .bool false ∧ ∃ nn, w9 = w8.drewN nn)
          case first =>
            refine wp_region_held_drew (S := fun w' => ∃ nn, w' = w8.drewN nn) (by kernel_rfl) ?_ (fun hHeld => ?_)
            · exact ⟨1, rfl⟩
            refine wpAnyH_take (i := 0) (oi := ({ dst := some 112, op := Op.move (Operand.tmp 7), type := 5, pos := "law.go:154", after := #[], guard := none } : Oper)) (v := (.int .u8 (o.x.toNat : Int))) (by kernel_rfl) (by kernel_rfl) (by kernel_rfl) (by kernel_rfl) (fun _ _ _ h => h) (Or.inl ⟨by kernel_rfl, ?_⟩) (by assumption) ?_
            · intro w' hSw
              obtain ⟨nn, rfl⟩ := hSw
              kernel_rfl
            try simp only [Act.put, List.setIfInBounds_toArray, List.set_cons_zero, List.set_cons_succ]
            refine wpAnyH_take (i := 1) (oi := ({ dst := some 113, op := Op.move (Operand.tmp 0), type := 36, pos := "law.go:154", after := #[], guard := none } : Oper)) (v := (.slice A l.length ca)) (by kernel_rfl) (by kernel_rfl) (by kernel_rfl) (by kernel_rfl) (fun _ _ _ h => h) (Or.inl ⟨by kernel_rfl, ?_⟩) (by assumption) ?_
            · intro w' hSw
              obtain ⟨nn, rfl⟩ := hSw
              kernel_rfl
            try simp only [Act.put, List.setIfInBounds_toArray, List.set_cons_zero, List.set_cons_succ]
            refine wpAnyH_take (i := 2) (oi := ({ dst := some 114, op := Op.move (Operand.tmp 6), type := 3, pos := "law.go:154", after := #[], guard := none } : Oper)) (v := (.int .i64 (k : Int))) (by kernel_rfl) (by kernel_rfl) (by kernel_rfl) (by kernel_rfl) (fun _ _ _ h => h) (Or.inl ⟨by kernel_rfl, ?_⟩) (by assumption) ?_
            · intro w' hSw
              obtain ⟨nn, rfl⟩ := hSw
              kernel_rfl
            try simp only [Act.put, List.setIfInBounds_toArray, List.set_cons_zero, List.set_cons_succ]
            refine wpAnyH_take (i := 3) (oi := ({ dst := some 115, op := Op.indexAddr 36 (Operand.tmp 113) (Operand.tmp 114), type := 0, pos := "law.go:154", after := #[{ on := 1, ground := Ground.data }, { on := 2, ground := Ground.data }], guard := none } : Oper)) (v := (.pointer (some ⟨b, off + k * 39, none⟩))) (by kernel_rfl) (by kernel_rfl) (by kernel_rfl) (by kernel_rfl) (fun _ _ _ h => h) (Or.inl ⟨by kernel_rfl, ?_⟩) (by assumption) ?_
            · intro w' hSw
              obtain ⟨nn, rfl⟩ := hSw
              exact exec_index (t := 36) (x := .tmp 113) (y := .tmp 114) (by kernel_rfl) (u := .slice A l.length ca) (v := .int .i64 (k : Int)) (by kernel_rfl) (by kernel_rfl) (hidx _)
            try simp only [Act.put, List.setIfInBounds_toArray, List.set_cons_zero, List.set_cons_succ]
            refine wpAnyH_take (i := 4) (oi := ({ dst := some 116, op := Op.fieldAddr 42 (Operand.tmp 115) 1, type := 0, pos := "law.go:154", after := #[{ on := 3, ground := Ground.data }], guard := none } : Oper)) (v := (.pointer (some ⟨b, off + k * 39 + 1, none⟩))) (by kernel_rfl) (by kernel_rfl) (by kernel_rfl) (by kernel_rfl) (fun _ _ _ h => h) (Or.inl ⟨by kernel_rfl, ?_⟩) (by assumption) ?_
            · intro w' hSw
              obtain ⟨nn, rfl⟩ := hSw
              kernel_rfl
            try simp only [Act.put, List.setIfInBounds_toArray, List.set_cons_zero, List.set_cons_succ]
            refine wpAnyH_take (i := 5) (oi := ({ dst := some 117, op := Op.load 5 (Operand.tmp 116), type := 5, pos := "law.go:154", after := #[{ on := 4, ground := Ground.data }], guard := none } : Oper)) (v := (.int .u8 (o.x.toNat : Int))) (by kernel_rfl) (by kernel_rfl) (by kernel_rfl) (by kernel_rfl) (fun _ _ _ h => h) (Or.inl ⟨by kernel_rfl, ?_⟩) (by assumption) ?_
            · intro w' hSw
              obtain ⟨nn, rfl⟩ := hSw
              exact exec_load_cell (v := (.int .u8 (o.x.toNat : Int))) 5 (.tmp 116) (by kernel_rfl) ⟨b, off + k * 39 + 1, none⟩ (by kernel_rfl) f1 _ Try.underlying5 rfl
            try simp only [Act.put, List.setIfInBounds_toArray, List.set_cons_zero, List.set_cons_succ]
            refine wpAnyH_take (i := 6) (oi := ({ dst := some 118, op := Op.binOp BinOp.neq 5 (Operand.tmp 112) (Operand.tmp 117) 5, type := 4, pos := "law.go:154", after := #[{ on := 0, ground := Ground.data }, { on := 5, ground := Ground.data }], guard := none } : Oper)) (v := (.bool false)) (by kernel_rfl) (by kernel_rfl) (by kernel_rfl) (by kernel_rfl) (fun _ _ _ h => h) (Or.inl ⟨by kernel_rfl, ?_⟩) (by assumption) ?_
            · intro w' hSw
              obtain ⟨nn, rfl⟩ := hSw
              exact exec_neq_int (k := .u8) (n := (o.x.toNat : Int)) rfl (by kernel_rfl) (by kernel_rfl)
            try simp only [Act.put, List.setIfInBounds_toArray, List.set_cons_zero, List.set_cons_succ]
            refine wpAnyH_take (i := 7) (oi := ({ dst := some 119, op := Op.move (Operand.tmp 118), type := 4, pos := "law.go:154", after := #[{ on := 6, ground := Ground.data }], guard := none } : Oper)) (v := (.bool false)) (by kernel_rfl) (by kernel_rfl) (by kernel_rfl) (by kernel_rfl) (fun _ _ _ h => h) (Or.inl ⟨by kernel_rfl, ?_⟩) (by assumption) ?_
            · intro w' hSw
              obtain ⟨nn, rfl⟩ := hSw
              kernel_rfl
            try simp only [Act.put, List.setIfInBounds_toArray, List.set_cons_zero, List.set_cons_succ]
            refine wpAnyH_take (i := 8) (oi := ({ dst := some 120, op := Op.move (Operand.tmp 8), type := 4, pos := "law.go:154", after := #[{ on := 7, ground := Ground.guard }], guard := some (7, false) } : Oper)) (v := (.bool tb)) (by kernel_rfl) (by kernel_rfl) (by kernel_rfl) (by kernel_rfl) (fun _ _ _ h => h) (Or.inl ⟨by kernel_rfl, ?_⟩) (by assumption) ?_
            · intro w' hSw
              obtain ⟨nn, rfl⟩ := hSw
              kernel_rfl
            try simp only [Act.put, List.setIfInBounds_toArray, List.set_cons_zero, List.set_cons_succ]
            refine wpAnyH_take (i := 9) (oi := ({ dst := some 121, op := Op.move (Operand.tmp 0), type := 36, pos := "law.go:154", after := #[{ on := 7, ground := Ground.guard }], guard := some (7, false) } : Oper)) (v := (.slice A l.length ca)) (by kernel_rfl) (by kernel_rfl) (by kernel_rfl) (by kernel_rfl) (fun _ _ _ h => h) (Or.inl ⟨by kernel_rfl, ?_⟩) (by assumption) ?_
            · intro w' hSw
              obtain ⟨nn, rfl⟩ := hSw
              kernel_rfl
            try simp only [Act.put, List.setIfInBounds_toArray, List.set_cons_zero, List.set_cons_succ]
            refine wpAnyH_take (i := 10) (oi := ({ dst := some 122, op := Op.move (Operand.tmp 6), type := 3, pos := "law.go:154", after := #[{ on := 7, ground := Ground.guard }], guard := some (7, false) } : Oper)) (v := (.int .i64 (k : Int))) (by kernel_rfl) (by kernel_rfl) (by kernel_rfl) (by kernel_rfl) (fun _ _ _ h => h) (Or.inl ⟨by kernel_rfl, ?_⟩) (by assumption) ?_
            · intro w' hSw
              obtain ⟨nn, rfl⟩ := hSw
              kernel_rfl
            try simp only [Act.put, List.setIfInBounds_toArray, List.set_cons_zero, List.set_cons_succ]
            refine wpAnyH_take (i := 11) (oi := ({ dst := some 123, op := Op.indexAddr 36 (Operand.tmp 121) (Operand.tmp 122), type := 0, pos := "law.go:154", after := #[{ on := 9, ground := Ground.data }, { on := 10, ground := Ground.data }, { on := 7, ground := Ground.guard }], guard := some (7, false) } : Oper)) (v := (.pointer (some ⟨b, off + k * 39, none⟩))) (by kernel_rfl) (by kernel_rfl) (by kernel_rfl) (by kernel_rfl) (fun _ _ _ h => h) (Or.inl ⟨by kernel_rfl, ?_⟩) (by assumption) ?_
            · intro w' hSw
              obtain ⟨nn, rfl⟩ := hSw
              exact exec_index (t := 36) (x := .tmp 121) (y := .tmp 122) (by kernel_rfl) (u := .slice A l.length ca) (v := .int .i64 (k : Int)) (by kernel_rfl) (by kernel_rfl) (hidx _)
            try simp only [Act.put, List.setIfInBounds_toArray, List.set_cons_zero, List.set_cons_succ]
            refine wpAnyH_take (i := 12) (oi := ({ dst := some 124, op := Op.fieldAddr 42 (Operand.tmp 123) 2, type := 0, pos := "law.go:154", after := #[{ on := 11, ground := Ground.data }, { on := 7, ground := Ground.guard }], guard := some (7, false) } : Oper)) (v := (.pointer (some ⟨b, off + k * 39 + 2, none⟩))) (by kernel_rfl) (by kernel_rfl) (by kernel_rfl) (by kernel_rfl) (fun _ _ _ h => h) (Or.inl ⟨by kernel_rfl, ?_⟩) (by assumption) ?_
            · intro w' hSw
              obtain ⟨nn, rfl⟩ := hSw
              kernel_rfl
            try simp only [Act.put, List.setIfInBounds_toArray, List.set_cons_zero, List.set_cons_succ]
            refine wpAnyH_take (i := 13) (oi := ({ dst := some 125, op := Op.load 3 (Operand.tmp 124), type := 3, pos := "law.go:154", after := #[{ on := 12, ground := Ground.data }, { on := 7, ground := Ground.guard }], guard := some (7, false) } : Oper)) (v := (.int .i64 o.n)) (by kernel_rfl) (by kernel_rfl) (by kernel_rfl) (by kernel_rfl) (fun _ _ _ h => h) (Or.inl ⟨by kernel_rfl, ?_⟩) (by assumption) ?_
            · intro w' hSw
              obtain ⟨nn, rfl⟩ := hSw
              exact exec_load_cell (v := (.int .i64 o.n)) 3 (.tmp 124) (by kernel_rfl) ⟨b, off + k * 39 + 2, none⟩ (by kernel_rfl) f2 _ Try.underlying3 rfl
            try simp only [Act.put, List.setIfInBounds_toArray, List.set_cons_zero, List.set_cons_succ]
            refine wpAnyH_take (i := 14) (oi := ({ dst := some 126, op := Op.binOp BinOp.rem 3 (Operand.tmp 125) (Operand.const (Value.int IntKind.i64 2)) 3, type := 3, pos := "law.go:154", after := #[{ on := 13, ground := Ground.data }, { on := 7, ground := Ground.guard }], guard := some (7, false) } : Oper)) (v := (.int .i64 (o.n.tmod 2))) (by kernel_rfl) (by kernel_rfl) (by kernel_rfl) (by kernel_rfl) (fun _ _ _ h => h) (Or.inl ⟨by kernel_rfl, ?_⟩) (by assumption) ?_
            · intro w' hSw
              obtain ⟨nn, rfl⟩ := hSw
              exact exec_rem2 (n := o.n) rfl (by kernel_rfl) (by kernel_rfl)
            try simp only [Act.put, List.setIfInBounds_toArray, List.set_cons_zero, List.set_cons_succ]
            refine wpAnyH_take (i := 15) (oi := ({ dst := some 127, op := Op.binOp BinOp.eql 3 (Operand.tmp 126) (Operand.const (Value.int IntKind.i64 0)) 3, type := 4, pos := "law.go:154", after := #[{ on := 14, ground := Ground.data }, { on := 7, ground := Ground.guard }], guard := some (7, false) } : Oper)) (v := (.bool tb)) (by kernel_rfl) (by kernel_rfl) (by kernel_rfl) (by kernel_rfl) (fun _ _ _ h => h) (Or.inl ⟨by kernel_rfl, ?_⟩) (by assumption) ?_
            · intro w' hSw
              obtain ⟨nn, rfl⟩ := hSw
              exact exec_eql0 (n := o.n.tmod 2) rfl (by kernel_rfl) (by kernel_rfl) htb
            try simp only [Act.put, List.setIfInBounds_toArray, List.set_cons_zero, List.set_cons_succ]
            refine wpAnyH_take (i := 16) (oi := ({ dst := some 128, op := Op.binOp BinOp.neq 4 (Operand.tmp 120) (Operand.tmp 127) 4, type := 4, pos := "law.go:154", after := #[{ on := 8, ground := Ground.data }, { on := 15, ground := Ground.data }, { on := 7, ground := Ground.guard }], guard := some (7, false) } : Oper)) (v := (.bool false)) (by kernel_rfl) (by kernel_rfl) (by kernel_rfl) (by kernel_rfl) (fun _ _ _ h => h) (Or.inl ⟨by kernel_rfl, ?_⟩) (by assumption) ?_
            · intro w' hSw
              obtain ⟨nn, rfl⟩ := hSw
              exact exec_neq_bool (c := tb) rfl (by kernel_rfl) (by kernel_rfl) Try.underlying4
            try simp only [Act.put, List.setIfInBounds_toArray, List.set_cons_zero, List.set_cons_succ]
            refine wpAnyH_take (i := 17) (oi := ({ dst := some 129, op := Op.pick (Operand.tmp 119) (Operand.const (Value.bool true)) (Operand.tmp 128), type := 4, pos := "law.go:154", after := #[{ on := 7, ground := Ground.data }, { on := 16, ground := Ground.data }], guard := none } : Oper)) (v := (.bool false)) (by kernel_rfl) (by kernel_rfl) (by kernel_rfl) (by kernel_rfl) (fun _ _ _ h => h) (Or.inl ⟨by kernel_rfl, ?_⟩) (by assumption) ?_
            · intro w' hSw
              obtain ⟨nn, rfl⟩ := hSw
              kernel_rfl
            try simp only [Act.put, List.setIfInBounds_toArray, List.set_cons_zero, List.set_cons_succ]
            refine wpAnyH_take (i := 18) (oi := ({ dst := some 130, op := Op.move (Operand.tmp 129), type := 4, pos := "law.go:154", after := #[{ on := 17, ground := Ground.data }, { on := 7, ground := Ground.chain }], guard := none } : Oper)) (v := (.bool false)) (by kernel_rfl) (by kernel_rfl) (by kernel_rfl) (by kernel_rfl) (fun _ _ _ h => h) (Or.inl ⟨by kernel_rfl, ?_⟩) (by assumption) ?_
            · intro w' hSw
              obtain ⟨nn, rfl⟩ := hSw
              kernel_rfl
            try simp only [Act.put, List.setIfInBounds_toArray, List.set_cons_zero, List.set_cons_succ]
            refine wpAnyH_take (i := 19) (oi := ({ dst := some 131, op := Op.move (Operand.tmp 9), type := 2, pos := "law.go:154", after := #[{ on := 18, ground := Ground.guard }], guard := some (18, false) } : Oper)) (v := (.int .i64 o.v)) (by kernel_rfl) (by kernel_rfl) (by kernel_rfl) (by kernel_rfl) (fun _ _ _ h => h) (Or.inl ⟨by kernel_rfl, ?_⟩) (by assumption) ?_
            · intro w' hSw
              obtain ⟨nn, rfl⟩ := hSw
              kernel_rfl
            try simp only [Act.put, List.setIfInBounds_toArray, List.set_cons_zero, List.set_cons_succ]
            refine wpAnyH_take (i := 20) (oi := ({ dst := some 132, op := Op.move (Operand.tmp 0), type := 36, pos := "law.go:154", after := #[{ on := 18, ground := Ground.guard }], guard := some (18, false) } : Oper)) (v := (.slice A l.length ca)) (by kernel_rfl) (by kernel_rfl) (by kernel_rfl) (by kernel_rfl) (fun _ _ _ h => h) (Or.inl ⟨by kernel_rfl, ?_⟩) (by assumption) ?_
            · intro w' hSw
              obtain ⟨nn, rfl⟩ := hSw
              kernel_rfl
            try simp only [Act.put, List.setIfInBounds_toArray, List.set_cons_zero, List.set_cons_succ]
            refine wpAnyH_take (i := 21) (oi := ({ dst := some 133, op := Op.move (Operand.tmp 6), type := 3, pos := "law.go:154", after := #[{ on := 18, ground := Ground.guard }], guard := some (18, false) } : Oper)) (v := (.int .i64 (k : Int))) (by kernel_rfl) (by kernel_rfl) (by kernel_rfl) (by kernel_rfl) (fun _ _ _ h => h) (Or.inl ⟨by kernel_rfl, ?_⟩) (by assumption) ?_
            · intro w' hSw
              obtain ⟨nn, rfl⟩ := hSw
              kernel_rfl
            try simp only [Act.put, List.setIfInBounds_toArray, List.set_cons_zero, List.set_cons_succ]
            refine wpAnyH_take (i := 22) (oi := ({ dst := some 134, op := Op.indexAddr 36 (Operand.tmp 132) (Operand.tmp 133), type := 0, pos := "law.go:154", after := #[{ on := 20, ground := Ground.data }, { on := 21, ground := Ground.data }, { on := 18, ground := Ground.guard }], guard := some (18, false) } : Oper)) (v := (.pointer (some ⟨b, off + k * 39, none⟩))) (by kernel_rfl) (by kernel_rfl) (by kernel_rfl) (by kernel_rfl) (fun _ _ _ h => h) (Or.inl ⟨by kernel_rfl, ?_⟩) (by assumption) ?_
            · intro w' hSw
              obtain ⟨nn, rfl⟩ := hSw
              exact exec_index (t := 36) (x := .tmp 132) (y := .tmp 133) (by kernel_rfl) (u := .slice A l.length ca) (v := .int .i64 (k : Int)) (by kernel_rfl) (by kernel_rfl) (hidx _)
            try simp only [Act.put, List.setIfInBounds_toArray, List.set_cons_zero, List.set_cons_succ]
            refine wpAnyH_take (i := 23) (oi := ({ dst := some 135, op := Op.fieldAddr 42 (Operand.tmp 134) 3, type := 0, pos := "law.go:154", after := #[{ on := 22, ground := Ground.data }, { on := 18, ground := Ground.guard }], guard := some (18, false) } : Oper)) (v := (.pointer (some ⟨b, off + k * 39 + 3, none⟩))) (by kernel_rfl) (by kernel_rfl) (by kernel_rfl) (by kernel_rfl) (fun _ _ _ h => h) (Or.inl ⟨by kernel_rfl, ?_⟩) (by assumption) ?_
            · intro w' hSw
              obtain ⟨nn, rfl⟩ := hSw
              kernel_rfl
            try simp only [Act.put, List.setIfInBounds_toArray, List.set_cons_zero, List.set_cons_succ]
            refine wpAnyH_take (i := 24) (oi := ({ dst := some 136, op := Op.load 2 (Operand.tmp 135), type := 2, pos := "law.go:154", after := #[{ on := 23, ground := Ground.data }, { on := 18, ground := Ground.guard }], guard := some (18, false) } : Oper)) (v := (.int .i64 o.v)) (by kernel_rfl) (by kernel_rfl) (by kernel_rfl) (by kernel_rfl) (fun _ _ _ h => h) (Or.inl ⟨by kernel_rfl, ?_⟩) (by assumption) ?_
            · intro w' hSw
              obtain ⟨nn, rfl⟩ := hSw
              exact exec_load_cell (v := (.int .i64 o.v)) 2 (.tmp 135) (by kernel_rfl) ⟨b, off + k * 39 + 3, none⟩ (by kernel_rfl) f3 _ Try.underlying2 rfl
            try simp only [Act.put, List.setIfInBounds_toArray, List.set_cons_zero, List.set_cons_succ]
            refine wpAnyH_take (i := 25) (oi := ({ dst := some 137, op := Op.binOp BinOp.neq 2 (Operand.tmp 131) (Operand.tmp 136) 2, type := 4, pos := "law.go:154", after := #[{ on := 19, ground := Ground.data }, { on := 24, ground := Ground.data }, { on := 18, ground := Ground.guard }], guard := some (18, false) } : Oper)) (v := (.bool false)) (by kernel_rfl) (by kernel_rfl) (by kernel_rfl) (by kernel_rfl) (fun _ _ _ h => h) (Or.inl ⟨by kernel_rfl, ?_⟩) (by assumption) ?_
            · intro w' hSw
              obtain ⟨nn, rfl⟩ := hSw
              exact exec_neq_int (k := .i64) (n := o.v) rfl (by kernel_rfl) (by kernel_rfl)
            try simp only [Act.put, List.setIfInBounds_toArray, List.set_cons_zero, List.set_cons_succ]
            refine wpAnyH_take (i := 26) (oi := ({ dst := some 138, op := Op.pick (Operand.tmp 130) (Operand.const (Value.bool true)) (Operand.tmp 137), type := 4, pos := "law.go:154", after := #[{ on := 18, ground := Ground.data }, { on := 25, ground := Ground.data }], guard := none } : Oper)) (v := (.bool false)) (by kernel_rfl) (by kernel_rfl) (by kernel_rfl) (by kernel_rfl) (fun _ _ _ h => h) (Or.inl ⟨by kernel_rfl, ?_⟩) (by assumption) ?_
            · intro w' hSw
              obtain ⟨nn, rfl⟩ := hSw
              kernel_rfl
            try simp only [Act.put, List.setIfInBounds_toArray, List.set_cons_zero, List.set_cons_succ]
            refine wpAnyH_take (i := 27) (oi := ({ dst := some 139, op := Op.move (Operand.tmp 138), type := 4, pos := "law.go:154", after := #[{ on := 26, ground := Ground.data }, { on := 18, ground := Ground.chain }], guard := none } : Oper)) (v := (.bool false)) (by kernel_rfl) (by kernel_rfl) (by kernel_rfl) (by kernel_rfl) (fun _ _ _ h => h) (Or.inl ⟨by kernel_rfl, ?_⟩) (by assumption) ?_
            · intro w' hSw
              obtain ⟨nn, rfl⟩ := hSw
              kernel_rfl
            try simp only [Act.put, List.setIfInBounds_toArray, List.set_cons_zero, List.set_cons_succ]
            refine wpAnyH_take (i := 28) (oi := ({ dst := some 140, op := Op.move (Operand.tmp 10), type := 22, pos := "law.go:154", after := #[{ on := 27, ground := Ground.guard }], guard := some (27, false) } : Oper)) (v := (.slice A5 o.b.length c5)) (by kernel_rfl) (by kernel_rfl) (by kernel_rfl) (by kernel_rfl) (fun _ _ _ h => h) (Or.inl ⟨by kernel_rfl, ?_⟩) (by assumption) ?_
            · intro w' hSw
              obtain ⟨nn, rfl⟩ := hSw
              kernel_rfl
            try simp only [Act.put, List.setIfInBounds_toArray, List.set_cons_zero, List.set_cons_succ]
            refine wpAnyH_take (i := 29) (oi := ({ dst := some 141, op := Op.convert 22 9 (Operand.tmp 140), type := 9, pos := "law.go:154", after := #[{ on := 28, ground := Ground.data }, { on := 27, ground := Ground.guard }], guard := some (27, false) } : Oper)) (v := (.string (str o.b))) (by kernel_rfl) (by kernel_rfl) (by kernel_rfl) (by kernel_rfl) (fun _ _ _ h => h) (Or.inl ⟨by kernel_rfl, ?_⟩) (by assumption) ?_
            · intro w' hSw
              obtain ⟨nn, rfl⟩ := hSw
              exact exec_conv rfl (u := .slice A5 o.b.length c5) (by kernel_rfl) (cvA nn)
            try simp only [Act.put, List.setIfInBounds_toArray, List.set_cons_zero, List.set_cons_succ]
            refine wpAnyH_take (i := 30) (oi := ({ dst := some 142, op := Op.move (Operand.tmp 0), type := 36, pos := "law.go:154", after := #[{ on := 27, ground := Ground.guard }], guard := some (27, false) } : Oper)) (v := (.slice A l.length ca)) (by kernel_rfl) (by kernel_rfl) (by kernel_rfl) (by kernel_rfl) (fun _ _ _ h => h) (Or.inl ⟨by kernel_rfl, ?_⟩) (by assumption) ?_
            · intro w' hSw
              obtain ⟨nn, rfl⟩ := hSw
              kernel_rfl
            try simp only [Act.put, List.setIfInBounds_toArray, List.set_cons_zero, List.set_cons_succ]
            refine wpAnyH_take (i := 31) (oi := ({ dst := some 143, op := Op.move (Operand.tmp 6), type := 3, pos := "law.go:154", after := #[{ on := 27, ground := Ground.guard }], guard := some (27, false) } : Oper)) (v := (.int .i64 (k : Int))) (by kernel_rfl) (by kernel_rfl) (by kernel_rfl) (by kernel_rfl) (fun _ _ _ h => h) (Or.inl ⟨by kernel_rfl, ?_⟩) (by assumption) ?_
            · intro w' hSw
              obtain ⟨nn, rfl⟩ := hSw
              kernel_rfl
            try simp only [Act.put, List.setIfInBounds_toArray, List.set_cons_zero, List.set_cons_succ]
            refine wpAnyH_take (i := 32) (oi := ({ dst := some 144, op := Op.indexAddr 36 (Operand.tmp 142) (Operand.tmp 143), type := 0, pos := "law.go:154", after := #[{ on := 30, ground := Ground.data }, { on := 31, ground := Ground.data }, { on := 27, ground := Ground.guard }], guard := some (27, false) } : Oper)) (v := (.pointer (some ⟨b, off + k * 39, none⟩))) (by kernel_rfl) (by kernel_rfl) (by kernel_rfl) (by kernel_rfl) (fun _ _ _ h => h) (Or.inl ⟨by kernel_rfl, ?_⟩) (by assumption) ?_
            · intro w' hSw
              obtain ⟨nn, rfl⟩ := hSw
              exact exec_index (t := 36) (x := .tmp 142) (y := .tmp 143) (by kernel_rfl) (u := .slice A l.length ca) (v := .int .i64 (k : Int)) (by kernel_rfl) (by kernel_rfl) (hidx _)
            try simp only [Act.put, List.setIfInBounds_toArray, List.set_cons_zero, List.set_cons_succ]
            refine wpAnyH_take (i := 33) (oi := ({ dst := some 145, op := Op.fieldAddr 42 (Operand.tmp 144) 4, type := 0, pos := "law.go:154", after := #[{ on := 32, ground := Ground.data }, { on := 27, ground := Ground.guard }], guard := some (27, false) } : Oper)) (v := (.pointer (some ⟨b, off + k * 39 + 4, none⟩))) (by kernel_rfl) (by kernel_rfl) (by kernel_rfl) (by kernel_rfl) (fun _ _ _ h => h) (Or.inl ⟨by kernel_rfl, ?_⟩) (by assumption) ?_
            · intro w' hSw
              obtain ⟨nn, rfl⟩ := hSw
              kernel_rfl
            try simp only [Act.put, List.setIfInBounds_toArray, List.set_cons_zero, List.set_cons_succ]
            refine wpAnyH_take (i := 34) (oi := ({ dst := some 146, op := Op.load 22 (Operand.tmp 145), type := 22, pos := "law.go:154", after := #[{ on := 33, ground := Ground.data }, { on := 27, ground := Ground.guard }], guard := some (27, false) } : Oper)) (v := (.slice o.bA o.b.length o.bC)) (by kernel_rfl) (by kernel_rfl) (by kernel_rfl) (by kernel_rfl) (fun _ _ _ h => h) (Or.inl ⟨by kernel_rfl, ?_⟩) (by assumption) ?_
            · intro w' hSw
              obtain ⟨nn, rfl⟩ := hSw
              exact exec_load_cell (v := (.slice o.bA o.b.length o.bC)) 22 (.tmp 145) (by kernel_rfl) ⟨b, off + k * 39 + 4, none⟩ (by kernel_rfl) f4 _ Try.underlying22 rfl
            try simp only [Act.put, List.setIfInBounds_toArray, List.set_cons_zero, List.set_cons_succ]
            refine wpAnyH_take (i := 35) (oi := ({ dst := some 147, op := Op.convert 22 9 (Operand.tmp 146), type := 9, pos := "law.go:154", after := #[{ on := 34, ground := Ground.data }, { on := 27, ground := Ground.guard }], guard := some (27, false) } : Oper)) (v := (.string (str o.b))) (by kernel_rfl) (by kernel_rfl) (by kernel_rfl) (by kernel_rfl) (fun _ _ _ h => h) (Or.inl ⟨by kernel_rfl, ?_⟩) (by assumption) ?_
            · intro w' hSw
              obtain ⟨nn, rfl⟩ := hSw
              exact exec_conv rfl (u := .slice o.bA o.b.length o.bC) (by kernel_rfl) (cvB nn)
            try simp only [Act.put, List.setIfInBounds_toArray, List.set_cons_zero, List.set_cons_succ]
            refine wpAnyH_take (i := 36) (oi := ({ dst := some 148, op := Op.binOp BinOp.neq 9 (Operand.tmp 141) (Operand.tmp 147) 9, type := 4, pos := "law.go:154", after := #[{ on := 29, ground := Ground.data }, { on := 35, ground := Ground.data }, { on := 27, ground := Ground.guard }], guard := some (27, false) } : Oper)) (v := (.bool false)) (by kernel_rfl) (by kernel_rfl) (by kernel_rfl) (by kernel_rfl) (fun _ _ _ h => h) (Or.inl ⟨by kernel_rfl, ?_⟩) (by assumption) ?_
            · intro w' hSw
              obtain ⟨nn, rfl⟩ := hSw
              exact exec_neq_str (b := str o.b) rfl (by kernel_rfl) (by kernel_rfl)
            try simp only [Act.put, List.setIfInBounds_toArray, List.set_cons_zero, List.set_cons_succ]
            refine wpAnyH_take (i := 37) (oi := ({ dst := some 149, op := Op.pick (Operand.tmp 139) (Operand.const (Value.bool true)) (Operand.tmp 148), type := 4, pos := "law.go:154", after := #[{ on := 27, ground := Ground.data }, { on := 36, ground := Ground.data }], guard := none } : Oper)) (v := (.bool false)) (by kernel_rfl) (by kernel_rfl) (by kernel_rfl) (by kernel_rfl) (fun _ _ _ h => h) (Or.inl ⟨by kernel_rfl, ?_⟩) (by assumption) ?_
            · intro w' hSw
              obtain ⟨nn, rfl⟩ := hSw
              kernel_rfl
            try simp only [Act.put, List.setIfInBounds_toArray, List.set_cons_zero, List.set_cons_succ]
            refine wpAnyH_take (i := 38) (oi := ({ dst := some 150, op := Op.move (Operand.tmp 149), type := 4, pos := "law.go:154", after := #[{ on := 37, ground := Ground.data }, { on := 27, ground := Ground.chain }], guard := none } : Oper)) (v := (.bool false)) (by kernel_rfl) (by kernel_rfl) (by kernel_rfl) (by kernel_rfl) (fun _ _ _ h => h) (Or.inl ⟨by kernel_rfl, ?_⟩) (by assumption) ?_
            · intro w' hSw
              obtain ⟨nn, rfl⟩ := hSw
              kernel_rfl
            try simp only [Act.put, List.setIfInBounds_toArray, List.set_cons_zero, List.set_cons_succ]
            refine wpAnyH_take (i := 39) (oi := ({ dst := some 151, op := Op.load 38 (Operand.tmp 11), type := 38, pos := "law.go:154", after := #[{ on := 38, ground := Ground.guard }], guard := some (38, false) } : Oper)) (v := (.agg (u8s o.d).toArray)) (by kernel_rfl) (by kernel_rfl) (by kernel_rfl) (by kernel_rfl) (fun _ _ _ h => h) (Or.inl ⟨by kernel_rfl, ?_⟩) (by assumption) ?_
            · intro w' hSw
              obtain ⟨nn, rfl⟩ := hSw
              exact exec_load_agg 38 (.tmp 11) (by kernel_rfl) w7.heap.size 0 (by kernel_rfl) (u8s o.d) _ (HDA.out nn) Try.underlying38 rfl dsz
            try simp only [Act.put, List.setIfInBounds_toArray, List.set_cons_zero, List.set_cons_succ]
            refine wpAnyH_take (i := 40) (oi := ({ dst := some 152, op := Op.move (Operand.tmp 0), type := 36, pos := "law.go:154", after := #[{ on := 38, ground := Ground.guard }], guard := some (38, false) } : Oper)) (v := (.slice A l.length ca)) (by kernel_rfl) (by kernel_rfl) (by kernel_rfl) (by kernel_rfl) (fun _ _ _ h => h) (Or.inl ⟨by kernel_rfl, ?_⟩) (by assumption) ?_
            · intro w' hSw
              obtain ⟨nn, rfl⟩ := hSw
              kernel_rfl
            try simp only [Act.put, List.setIfInBounds_toArray, List.set_cons_zero, List.set_cons_succ]
            refine wpAnyH_take (i := 41) (oi := ({ dst := some 153, op := Op.move (Operand.tmp 6), type := 3, pos := "law.go:154", after := #[{ on := 38, ground := Ground.guard }], guard := some (38, false) } : Oper)) (v := (.int .i64 (k : Int))) (by kernel_rfl) (by kernel_rfl) (by kernel_rfl) (by kernel_rfl) (fun _ _ _ h => h) (Or.inl ⟨by kernel_rfl, ?_⟩) (by assumption) ?_
            · intro w' hSw
              obtain ⟨nn, rfl⟩ := hSw
              kernel_rfl
            try simp only [Act.put, List.setIfInBounds_toArray, List.set_cons_zero, List.set_cons_succ]
            refine wpAnyH_take (i := 42) (oi := ({ dst := some 154, op := Op.indexAddr 36 (Operand.tmp 152) (Operand.tmp 153), type := 0, pos := "law.go:154", after := #[{ on := 40, ground := Ground.data }, { on := 41, ground := Ground.data }, { on := 38, ground := Ground.guard }], guard := some (38, false) } : Oper)) (v := (.pointer (some ⟨b, off + k * 39, none⟩))) (by kernel_rfl) (by kernel_rfl) (by kernel_rfl) (by kernel_rfl) (fun _ _ _ h => h) (Or.inl ⟨by kernel_rfl, ?_⟩) (by assumption) ?_
            · intro w' hSw
              obtain ⟨nn, rfl⟩ := hSw
              exact exec_index (t := 36) (x := .tmp 152) (y := .tmp 153) (by kernel_rfl) (u := .slice A l.length ca) (v := .int .i64 (k : Int)) (by kernel_rfl) (by kernel_rfl) (hidx _)
            try simp only [Act.put, List.setIfInBounds_toArray, List.set_cons_zero, List.set_cons_succ]
            refine wpAnyH_take (i := 43) (oi := ({ dst := some 155, op := Op.fieldAddr 42 (Operand.tmp 154) 5, type := 0, pos := "law.go:154", after := #[{ on := 42, ground := Ground.data }, { on := 38, ground := Ground.guard }], guard := some (38, false) } : Oper)) (v := (.pointer (some ⟨b, off + k * 39 + 5, none⟩))) (by kernel_rfl) (by kernel_rfl) (by kernel_rfl) (by kernel_rfl) (fun _ _ _ h => h) (Or.inl ⟨by kernel_rfl, ?_⟩) (by assumption) ?_
            · intro w' hSw
              obtain ⟨nn, rfl⟩ := hSw
              kernel_rfl
            try simp only [Act.put, List.setIfInBounds_toArray, List.set_cons_zero, List.set_cons_succ]
            refine wpAnyH_take (i := 44) (oi := ({ dst := some 156, op := Op.load 38 (Operand.tmp 155), type := 38, pos := "law.go:154", after := #[{ on := 43, ground := Ground.data }, { on := 38, ground := Ground.guard }], guard := some (38, false) } : Oper)) (v := (.agg (u8s o.d).toArray)) (by kernel_rfl) (by kernel_rfl) (by kernel_rfl) (by kernel_rfl) (fun _ _ _ h => h) (Or.inl ⟨by kernel_rfl, ?_⟩) (by assumption) ?_
            · intro w' hSw
              obtain ⟨nn, rfl⟩ := hSw
              exact exec_load_agg 38 (.tmp 155) (by kernel_rfl) b (off + k * 39 + 5) (by kernel_rfl) (u8s o.d) _ (HDB.out nn) Try.underlying38 rfl dsz
            try simp only [Act.put, List.setIfInBounds_toArray, List.set_cons_zero, List.set_cons_succ]
            refine wpAnyH_take (i := 45) (oi := ({ dst := some 157, op := Op.binOp BinOp.neq 38 (Operand.tmp 151) (Operand.tmp 156) 38, type := 4, pos := "law.go:154", after := #[{ on := 39, ground := Ground.data }, { on := 44, ground := Ground.data }, { on := 38, ground := Ground.guard }], guard := some (38, false) } : Oper)) (v := (.bool false)) (by kernel_rfl) (by kernel_rfl) (by kernel_rfl) (by kernel_rfl) (fun _ _ _ h => h) (Or.inl ⟨by kernel_rfl, ?_⟩) (by assumption) ?_
            · intro w' hSw
              obtain ⟨nn, rfl⟩ := hSw
              exact exec_neq_digS (x := .tmp 151) (y := .tmp 156) (yt := 38) _ rfl o.d (by kernel_rfl) (by kernel_rfl) d32
            try simp only [Act.put, List.setIfInBounds_toArray, List.set_cons_zero, List.set_cons_succ]
            refine wpAnyH_take (i := 46) (oi := ({ dst := some 158, op := Op.pick (Operand.tmp 150) (Operand.const (Value.bool true)) (Operand.tmp 157), type := 4, pos := "law.go:154", after := #[{ on := 38, ground := Ground.data }, { on := 45, ground := Ground.data }], guard := none } : Oper)) (v := (.bool false)) (by kernel_rfl) (by kernel_rfl) (by kernel_rfl) (by kernel_rfl) (fun _ _ _ h => h) (Or.inl ⟨by kernel_rfl, ?_⟩) (by assumption) ?_
            · intro w' hSw
              obtain ⟨nn, rfl⟩ := hSw
              kernel_rfl
            try simp only [Act.put, List.setIfInBounds_toArray, List.set_cons_zero, List.set_cons_succ]
            refine wpAnyH_take (i := 47) (oi := ({ dst := some 159, op := Op.move (Operand.tmp 158), type := 4, pos := "law.go:154", after := #[{ on := 46, ground := Ground.data }, { on := 38, ground := Ground.chain }], guard := none } : Oper)) (v := (.bool false)) (by kernel_rfl) (by kernel_rfl) (by kernel_rfl) (by kernel_rfl) (fun _ _ _ h => h) (Or.inl ⟨by kernel_rfl, ?_⟩) (by assumption) ?_
            · intro w' hSw
              obtain ⟨nn, rfl⟩ := hSw
              kernel_rfl
            try simp only [Act.put, List.setIfInBounds_toArray, List.set_cons_zero, List.set_cons_succ]
            refine wpAnyH_take (i := 48) (oi := ({ dst := some 160, op := Op.move (Operand.tmp 12), type := 40, pos := "law.go:154", after := #[{ on := 47, ground := Ground.guard }], guard := some (47, false) } : Oper)) (v := (.slice A7 o.r.length c7)) (by kernel_rfl) (by kernel_rfl) (by kernel_rfl) (by kernel_rfl) (fun _ _ _ h => h) (Or.inl ⟨by kernel_rfl, ?_⟩) (by assumption) ?_
            · intro w' hSw
              obtain ⟨nn, rfl⟩ := hSw
              kernel_rfl
            try simp only [Act.put, List.setIfInBounds_toArray, List.set_cons_zero, List.set_cons_succ]
            refine wpAnyH_take (i := 49) (oi := ({ dst := some 161, op := Op.move (Operand.tmp 0), type := 36, pos := "law.go:154", after := #[{ on := 47, ground := Ground.guard }], guard := some (47, false) } : Oper)) (v := (.slice A l.length ca)) (by kernel_rfl) (by kernel_rfl) (by kernel_rfl) (by kernel_rfl) (fun _ _ _ h => h) (Or.inl ⟨by kernel_rfl, ?_⟩) (by assumption) ?_
            · intro w' hSw
              obtain ⟨nn, rfl⟩ := hSw
              kernel_rfl
            try simp only [Act.put, List.setIfInBounds_toArray, List.set_cons_zero, List.set_cons_succ]
            refine wpAnyH_take (i := 50) (oi := ({ dst := some 162, op := Op.move (Operand.tmp 6), type := 3, pos := "law.go:154", after := #[{ on := 47, ground := Ground.guard }], guard := some (47, false) } : Oper)) (v := (.int .i64 (k : Int))) (by kernel_rfl) (by kernel_rfl) (by kernel_rfl) (by kernel_rfl) (fun _ _ _ h => h) (Or.inl ⟨by kernel_rfl, ?_⟩) (by assumption) ?_
            · intro w' hSw
              obtain ⟨nn, rfl⟩ := hSw
              kernel_rfl
            try simp only [Act.put, List.setIfInBounds_toArray, List.set_cons_zero, List.set_cons_succ]
            refine wpAnyH_take (i := 51) (oi := ({ dst := some 163, op := Op.indexAddr 36 (Operand.tmp 161) (Operand.tmp 162), type := 0, pos := "law.go:154", after := #[{ on := 49, ground := Ground.data }, { on := 50, ground := Ground.data }, { on := 47, ground := Ground.guard }], guard := some (47, false) } : Oper)) (v := (.pointer (some ⟨b, off + k * 39, none⟩))) (by kernel_rfl) (by kernel_rfl) (by kernel_rfl) (by kernel_rfl) (fun _ _ _ h => h) (Or.inl ⟨by kernel_rfl, ?_⟩) (by assumption) ?_
            · intro w' hSw
              obtain ⟨nn, rfl⟩ := hSw
              exact exec_index (t := 36) (x := .tmp 161) (y := .tmp 162) (by kernel_rfl) (u := .slice A l.length ca) (v := .int .i64 (k : Int)) (by kernel_rfl) (by kernel_rfl) (hidx _)
            try simp only [Act.put, List.setIfInBounds_toArray, List.set_cons_zero, List.set_cons_succ]
            refine wpAnyH_take (i := 52) (oi := ({ dst := some 164, op := Op.fieldAddr 42 (Operand.tmp 163) 6, type := 0, pos := "law.go:154", after := #[{ on := 51, ground := Ground.data }, { on := 47, ground := Ground.guard }], guard := some (47, false) } : Oper)) (v := (.pointer (some ⟨b, off + k * 39 + 37, none⟩))) (by kernel_rfl) (by kernel_rfl) (by kernel_rfl) (by kernel_rfl) (fun _ _ _ h => h) (Or.inl ⟨by kernel_rfl, ?_⟩) (by assumption) ?_
            · intro w' hSw
              obtain ⟨nn, rfl⟩ := hSw
              kernel_rfl
            try simp only [Act.put, List.setIfInBounds_toArray, List.set_cons_zero, List.set_cons_succ]
            refine wpAnyH_take (i := 53) (oi := ({ dst := some 165, op := Op.load 40 (Operand.tmp 164), type := 40, pos := "law.go:154", after := #[{ on := 52, ground := Ground.data }, { on := 47, ground := Ground.guard }], guard := some (47, false) } : Oper)) (v := (.slice o.rA o.r.length o.rC)) (by kernel_rfl) (by kernel_rfl) (by kernel_rfl) (by kernel_rfl) (fun _ _ _ h => h) (Or.inl ⟨by kernel_rfl, ?_⟩) (by assumption) ?_
            · intro w' hSw
              obtain ⟨nn, rfl⟩ := hSw
              exact exec_load_cell (v := (.slice o.rA o.r.length o.rC)) 40 (.tmp 164) (by kernel_rfl) ⟨b, off + k * 39 + 37, none⟩ (by kernel_rfl) f37 _ Try.underlying40 rfl
            try simp only [Act.put, List.setIfInBounds_toArray, List.set_cons_zero, List.set_cons_succ]
            refine wpAnyH_ready (rs := [54]) (by kernel_rfl) (by simp) ?_
            refine AllReadyH.cons (o := ({ dst := some 166, op := Op.call { callee := Callee.value (Operand.func 30), args := #[Operand.tmp 160, Operand.tmp 165], argTypes := #[40, 40] }, type := 4, pos := "law.go:154", after := #[{ on := 48, ground := Ground.data }, { on := 53, ground := Ground.data }, { on := 47, ground := Ground.chain }, { on := 47, ground := Ground.guard }], guard := some (47, false) } : Oper)) (by kernel_rfl) (fun K hK => ?_) AllReadyH.nil
            refine step_call (by kernel_rfl) 30 #[.slice A7 o.r.length c7, .slice o.rA o.r.length o.rC] (by kernel_rfl) HSM.out ?_
            rintro e w9 ⟨rfl, q, rfl⟩
            refine ⟨_, rfl, hK.out _ _ (⟨1 + q, World.drewN_drew _ _⟩) (fun hHeld2 => ?_)⟩
            clear hK K hHeld; have hHeld := hHeld2; clear hHeld2
            try simp only [Act.put, List.setIfInBounds_toArray, List.set_cons_zero, List.set_cons_succ]
            refine wpAnyH_take (i := 55) (oi := ({ dst := some 167, op := Op.unOp UnOp.not 4 (Operand.tmp 166), type := 4, pos := "law.go:154", after := #[{ on := 54, ground := Ground.data }, { on := 47, ground := Ground.guard }], guard := some (47, false) } : Oper)) (v := (.bool false)) (by kernel_rfl) (by kernel_rfl) (by kernel_rfl) (by kernel_rfl) (fun _ _ _ h => h) (Or.inl ⟨by kernel_rfl, ?_⟩) (by assumption) ?_
            · intro w' hSw
              obtain ⟨nn, rfl⟩ := hSw
              kernel_rfl
            try simp only [Act.put, List.setIfInBounds_toArray, List.set_cons_zero, List.set_cons_succ]
            refine wpAnyH_take (i := 56) (oi := ({ dst := some 168, op := Op.pick (Operand.tmp 159) (Operand.const (Value.bool true)) (Operand.tmp 167), type := 4, pos := "law.go:154", after := #[{ on := 47, ground := Ground.data }, { on := 55, ground := Ground.data }], guard := none } : Oper)) (v := (.bool false)) (by kernel_rfl) (by kernel_rfl) (by kernel_rfl) (by kernel_rfl) (fun _ _ _ h => h) (Or.inl ⟨by kernel_rfl, ?_⟩) (by assumption) ?_
            · intro w' hSw
              obtain ⟨nn, rfl⟩ := hSw
              kernel_rfl
            try simp only [Act.put, List.setIfInBounds_toArray, List.set_cons_zero, List.set_cons_succ]
            refine wpAnyH_done (by kernel_rfl) ?_ _
            go_wp2_with fail
            go_meet
            exact ⟨rfl, hHeld⟩
          case rest =>
            obtain ⟨rfl, nn, rfl⟩ := hcut
            have hi9 := (I7.out.fr F8.out (by simp) (by simp)).drewN nn
            rw [← HR.out] at hi9
            have I9 := Lib.hid hi9
            have F9 := Lib.hid (HFW.out.drewN nn)
            clear hi9 f1 f2 f3 f4 f37 cvA cvB
            go_wp2_with fail
            go_roundg (j - (k + 1))
            case measure => omega
            case rel => exact ⟨k + 1, by omega, rfl, by go_num, I9.out, F9.out⟩
end Go.Proofs.Ytaclinojbifkbaa
