/- The walk of ShaPieces. -/
import Derived.Test.YtgjcnmlfoagnpaaShaP
namespace Go.Proofs.Ytgjcnmlfoagnpaa
open Go.RowKit
set_option linter.unusedVariables false

theorem flat_len (ls : List (List UInt8)) : ∀ i, (∀ (j : Nat) (x : List UInt8), j < i → ls[j]? = some x → x.length ≤ 500) → (ls.take i).flatten.length ≤ 500 * i
  | 0, _ => by simp
  | i + 1, h => by
    have h1 := flat_len ls i (fun j x hj hx => h j x (by omega) hx)
    rcases Nat.lt_or_ge i ls.length with hi | hi
    · have h2 := h i ls[i] (by omega) (by simp)
      rw [List.take_succ_eq_append_getElem hi]
      simp only [List.flatten_append, List.length_append, List.flatten_cons, List.flatten_nil, List.append_nil]
      omega
    · rw [List.take_of_length_le (by omega)]
      rw [List.take_of_length_le hi] at h1
      omega
theorem flat_step (ls : List (List UInt8)) (i : Nat) (t : List UInt8) (h : ls[i]? = some t) : (ls.take i).flatten ++ t = (ls.take (i + 1)).flatten := by
  obtain ⟨hi, he⟩ := List.getElem?_eq_some_iff.1 h
  rw [List.take_succ_eq_append_getElem hi]
  simp [he]
theorem u8_add1 (x : UInt8) : ((x.toNat : Int) + 1) % 256 = ((x + 1).toNat : Int) := by
  rw [UInt8.toNat_add]
  have e : (1 : UInt8).toNat = 1 := rfl
  rw [e]
  omega
set_option maxHeartbeats 8000000 in
set_option maxRecDepth 100000 in
theorem pieces_walk (w : World) (LA : Option Addr) (n c : Nat) (ls : List (List UInt8)) (hn : ls.length = n) (hL : TxIn w LA ls) (hnm : n ≤ maxLen) (hlx : ∀ (i : Nat) (x : List UInt8), ls[i]? = some x → x.length ≤ maxLen) :
    Calls Try.prog 4 #[.slice LA n c] w (QuietS (.bool true) w) := by
  unfold maxLen at hnm
  have HAL := Lib.hid (alive_calls w)
  have HL := Lib.hid hL; have HN := Lib.hid hn; have HLX := Lib.hid hlx
  have hneq : ∀ (a : Addr) (w : World), (binOp .eql 29 (.pointer (some a)) (.pointer none)).run Try.prog w = .ok (.bool false) w := fun a w => by kernel_rfl
  have hgd := dig_guard'
  clear hL hn hlx
  go_enter Try.func4, Try.ntmps4
  go_upto_region 6 with (first
    | (go_at_call 8; (with_reducible refine HAL.out.mono ?_); rintro e w1 ⟨rfl, f1⟩; have F1 := Lib.hid f1; have HNW := Lib.hid (new_calls w1); clear f1)
    | (go_at_call 11; (with_reducible refine HNW.out.mono ?_); rintro e w2 ⟨p, rfl, hp, hst, f2⟩; have HP := Lib.hid (Nat.le_trans F1.out.size hp); have HST := Lib.hid hst; have F2 := Lib.hid (F1.out.trans f2); clear hp hst f2)
    | (refine wpList_val (o := ⟨some 13, _, _, _, _, _⟩) rfl (.agg (stCells V0 none 0 0 0).toArray) _ (by kernel_rfl) ?_)
    | (refine box_agg rfl 35 (.tmp 13) rfl (stCells V0 none 0 0 0).toArray rfl ?_))
  obtain ⟨z, hz⟩ : ∃ z, w2.heap.size = z := ⟨_, rfl⟩
  have hpw : PW w (w2.alloc (.cells (stCells V0 none 0 0 0).toArray 35)) p z [] none none (.slice none 0 0) := by
    have h1 := HST.out.lt
    have h2 := F2.out.size
    have h3 := zero_st w2
    rw [hz] at h3
    exact ⟨HST.out.fr0 ((Fr.refl [] w2).alloc _) (by simp) (by simp), h3, World.ownsRow_nil _ _ _ _, (fun hl => by simp [restB] at hl), (fun hl => by simp [restB] at hl), by omega, HP.out, by omega, F2.out.alloc _⟩
  obtain ⟨w3, hw3⟩ : ∃ w3, w2.alloc (.cells (stCells V0 none 0 0 0).toArray 35) = w3 := ⟨_, rfl⟩
  rw [hw3] at hpw ⊢
  rw [hz]
  have HPW := Lib.hid hpw
  clear hpw hw3 hz HST HP F2 F1 HNW HAL
  go_wp2_with fail
  obtain ⟨N, hN1, hN2, hN3⟩ : ∃ N, N ≤ n ∧ N ≤ 20 ∧ (N = n ∨ N = 20) := ⟨min n 20, by omega, by omega, by omega⟩
  go_loopg [5, 6] N (fun gg v u wr => ∃ (i : Nat) (As Az : Option Addr), i ≤ N ∧ gg = N - i ∧ u = .int .i64 i ∧ PW w wr p z (ls.take i).flatten As Az v ∧ (∀ (j : Nat) (x : List UInt8), j < i → ls[j]? = some x → x.length ≤ 500))
  case atStart => exact ⟨0, none, none, by omega, by omega, rfl, by simpa using HPW.out, (fun j x hj => by omega)⟩
  case round =>
    obtain ⟨i, As, Az, hi, rfl, rfl, hpw, hsm⟩ := hrel
    obtain ⟨Av, cv, hv, hown'⟩ := own_form hpw.own
    subst hv
    have hfl := flat_len ls i hsm
    obtain ⟨L, hLe⟩ : ∃ L, (ls.take i).flatten = L := ⟨_, rfl⟩
    rw [hLe] at hpw hfl ⊢
    obtain ⟨Ln, hLn⟩ : ∃ k, L.length = k := ⟨_, rfl⟩
    rw [hLn] at hpw ⊢
    rw [hLn] at hfl
    have HPW := Lib.hid hpw; have HSM := Lib.hid hsm; have HLE := Lib.hid hLe; have HLN := Lib.hid hLn
    clear hpw hsm hown' hLe hLn
    go_upto_region 8 with fail
    go_cut [24] (fun v wc => wr = wc ∧ ∃ c : Bool, v = .bool c ∧ (c = true ↔ i < N))
    case first =>
      by_cases hlt1 : i < n
      · have hI1 : (i : Int) < (n : Int) := by omega
        by_cases hlt2 : i < 20
        · have hI2 : (i : Int) < 20 := by omega
          go_wp2_with fail
          go_meet
          exact ⟨rfl, _, rfl, by simp; omega⟩
        · have hI2 : (20 : Int) ≤ (i : Int) := by omega
          go_wp2_with fail
          go_meet
          exact ⟨rfl, _, rfl, by simp; omega⟩
      · have hI1 : (n : Int) ≤ (i : Int) := by omega
        go_wp2_with fail
        go_meet
        exact ⟨rfl, _, rfl, by simp; omega⟩
    case rest =>
    obtain ⟨rfl, cc, rfl, hc⟩ := hcut
    have HCC := Lib.hid hc
    clear hc
    cases cc with
    | true =>
      have hlN := HCC.out.1 rfl
      have HLT := Lib.hid hlN
      have hlt : i < n := by omega
      obtain ⟨t, ht⟩ : ∃ t, ls[i]? = some t := ⟨ls[i]'(by have := HN.out; omega), by simp⟩
      obtain ⟨bL, oL, A, ct, hA, hbw, hc0, hr⟩ := HL.out i t ht
      subst hA
      have hix := fun w' => ix_sl0 (P := Try.prog) (b := bL) (off := oL) (n := n) (c := c) Try.underlying28 size_sl hlt w'
      have htx := HLX.out i t ht
      unfold maxLen at htx
      obtain ⟨tn, htn⟩ : ∃ k, t.length = k := ⟨_, rfl⟩
      rw [htn] at hc0 htx
      have HT := Lib.hid ht; have HTN := Lib.hid htn; have HR := Lib.hid hr; have HBW := Lib.hid hbw
      have HC0 := Lib.hid (fun (w' : World) (h : Fr [] w w') => (by rw [h.cell (p := ⟨bL, oL + i, none⟩) hbw (by simp)]; exact hc0 : w'.cell? ⟨bL, oL + i, none⟩ = some (.slice A tn ct)))
      have hcr := HC0.out wr HPW.out.fr
      have hiI : (0 : Int) ≤ (i : Int) ∧ (i : Int) < (n : Int) := by omega
      have htI : (tn : Int) ≤ 9223372036854775807 := by omega
      clear ht htn hr hbw htx hc0 hlN
      by_cases h500 : 500 < tn
      · have hI : (500 : Int) < (tn : Int) := by omega
        go_wp2_with fail
        go_ret
        exact ⟨rfl, HPW.out.fr⟩
      have hI : (tn : Int) ≤ 500 := by omega
      have HSM2 := Lib.hid (show ∀ (j : Nat) (x : List UInt8), j < i + 1 → ls[j]? = some x → x.length ≤ 500 from fun j x hj hx => by
        by_cases e : j = i
        · subst e
          have h1 := HT.out
          rw [hx] at h1
          cases h1
          have := HTN.out
          omega
        · exact HSM.out j x (by omega) hx)
      have hca := cell_alloc hcr (.cells #[] 5)
      have HRr := Lib.hid (HR.out.fr HPW.out.fr (by simp))
      have hbt : tn ≤ 1000000000 := by omega
      go_upto_region 13 with (at_builtin; refine copyU8 rfl (.tmp 33) (.tmp 37) rfl wr _ rfl rfl rfl A tn ct t rfl HTN.out HRr.out hbt ?_; intro g1 c1 w1 ho1 hf1; have HO1 := Lib.hid ho1; have HX1 := Lib.hid hf1; clear ho1 hf1 hca hcr)
      obtain ⟨_, hg1, _, _, tl, hblk1⟩ := ownB_at HO1.out
      have hpw1 := HPW.out.fr0 HX1.out
      have hrx := rdB_blk hblk1
      have HPW1 := Lib.hid hpw1; have HB1 := Lib.hid hblk1; have HG1 := Lib.hid hg1
      have HWS := Lib.hid (write_calls w1 p L As hpw1.s (some ⟨g1, 0, none⟩) tn c1 t HTN.out hrx (by rw [HLN.out]; omega))
      have HWZ := Lib.hid (fun (w2 : World) (f2 : Fr [p] w1 w2) => write_calls w2 z L Az (hpw1.t.fr0 f2 (by simp; exact fun e => hpw1.pz e.symm) (fun hl b off hb => by have := hpw1.s.ne hpw1.t.rd hl hb; simpa using this)) (some ⟨g1, 0, none⟩) tn c1 t HTN.out
        (hrx.fr0 f2 (fun hl b off hb => by have := hpw1.s.ne hrx hl hb; simpa using this)) (by rw [HLN.out]; omega))
      clear hpw1 hblk1 hrx hg1
      go_upto_region 15 with (first
        | (go_at_call 12; (with_reducible refine HWS.out.mono ?_); rintro e w2 ⟨rfl, As', hs2, ha2, hf2⟩; have HS2 := Lib.hid hs2; have HA2 := Lib.hid ha2; have HX2 := Lib.hid hf2; clear hs2 ha2 hf2 HWS)
        | (go_at_call 12; (with_reducible refine (HWZ.out w2 HX2.out).mono ?_); rintro e w3 ⟨rfl, Az', hs3, ha3, hf3⟩; have HS3 := Lib.hid hs3; have HA3 := Lib.hid ha3; have HX3 := Lib.hid hf3; clear hs3 ha3 hf3))
      have hw3 : Fr [] w w3 := (HPW1.out.fr.trans' HX2.out (fun y hy => by simp at hy; subst hy; exact .inr HPW.out.pn)).trans' HX3.out (fun y hy => by simp at hy; subst hy; exact .inr HPW.out.zn)
      have hcr := HC0.out w3 hw3
      have hpo := HPW1.out.s.own_ne HPW1.out.own
      have hzo := HPW1.out.t.own_ne HPW1.out.own
      have HOW := Lib.hid (own_fr (own_fr HPW1.out.own HX2.out (fun k hk hm => by simp at hm; subst hm; exact hpo hk)) HX3.out (fun k hk hm => by simp at hm; subst hm; exact hzo hk))
      have HOW2 := HOW
      rw [HLN.out] at HOW2
      have HR3 := Lib.hid (HR.out.fr hw3 (by simp))
      have HSZ := Lib.hid hw3.size
      have hbl : Ln + tn ≤ 1000000000 := by omega
      clear hpo hzo hw3
      go_upto_region 16 with (at_builtin; refine appU8 rfl (.tmp 45) (.tmp 49) rfl w.heap.size _ Ln L rfl HOW2.out A tn ct t rfl HTN.out HR3.out hbl HSZ.out ?_; intro A4 c4 w4 ho4 hf4 hb4; have HO4 := Lib.hid ho4; have HX4 := Lib.hid hf4; have HB4 := Lib.hid hb4; clear ho4 hf4 hb4 hcr)
      have hL2 : (L ++ t).length = Ln + tn := by rw [List.length_append, HLN.out, HTN.out]
      have hstep := HPW1.out.step HS2.out HA2.out HX2.out HS3.out HA3.out HX3.out hL2.symm HO4.out HX4.out HB4.out
      have hgp : g1 ≠ p := by
        obtain ⟨⟨V, c, hb, _, _⟩, _, _⟩ := HPW1.out.s
        exact HB1.out.ne_ hb (by decide)
      have hgz : g1 ≠ z := by
        obtain ⟨⟨V, c, hb, _, _⟩, _, _⟩ := HPW1.out.t
        exact HB1.out.ne_ hb (by decide)
      have hgl := HB1.out.lt
      have hov : ∀ k, (Value.slice Av Ln cv).ownBlock = some k → k < wr.heap.size := fun k hk => (HPW.out.own.lt k hk).2
      have hb4 : Blk w4 g1 5 (u8s t ++ tl).toArray := ((HB1.out.fr HX2.out (by simp; exact hgp)).fr HX3.out (by simp; exact hgz)).fr HX4.out (by
        simp only [Option.mem_toList]
        intro e
        have := hov g1 e
        have := HG1.out
        omega)
      have hga : ∀ b off, As' = some ⟨b, off, none⟩ → b ≠ g1 := fun b off hb => by have := HA2.out b off hb; omega
      have hgz2 : ∀ b off, Az' = some ⟨b, off, none⟩ → b ≠ g1 := fun b off hb => by have := HA3.out b off hb; have := HX2.out.size; omega
      have hgo : (Value.slice A4 (Ln + tn) c4).ownBlock ≠ some g1 := fun e => by
        rcases HB4.out with h | h
        · rw [h] at e; have := hov g1 e; have := HG1.out; omega
        · rw [h] at e; injection e with e; have := HX2.out.size; have := HX3.out.size; omega
      have hgw : w.heap.size ≤ g1 := by have := HG1.out; have := HPW.out.fr.size; omega
      have HPS := Lib.hid hstep; have HBX := Lib.hid hb4; have HGP := Lib.hid hgp; have HGZ := Lib.hid hgz; have HGA := Lib.hid hga; have HGZ2 := Lib.hid hgz2; have HGO := Lib.hid hgo; have HGW := Lib.hid hgw
      have HL2 := Lib.hid hL2
      clear hstep hb4 hgp hgz hga hgz2 hgo hgw hL2 hgl hov HOW HOW2 HO4 HX4 HB4 HR3 HSZ HX3 HS3 HA3 HX2 HS2 HA2 HWZ HB1 HG1 HPW1 HO1 HX1 HRr
      go_wp2_with fail
      obtain ⟨wo, rfl⟩ : ∃ wo : World, wo = wr := ⟨_, rfl⟩
      go_loopg [8] tn (fun gg u wr => ∃ (k : Nat) (xs : List UInt8), k ≤ tn ∧ gg = tn - k ∧ u = .int .i64 k ∧ xs.length = tn ∧ Blk wr g1 5 (u8s xs ++ tl).toArray ∧ PW w wr p z (L ++ t) As' Az' (.slice A4 (Ln + tn) c4))
      case atStart => exact ⟨0, t, by omega, by omega, rfl, HTN.out, HBX.out, HPS.out⟩
      case round =>
        obtain ⟨k, xs, hk, rfl, rfl, hxl, hbx, hps⟩ := hrel
        have JB := Lib.hid hbx; have JP := Lib.hid hps; have JL := Lib.hid hxl
        by_cases hlk : k < tn
        · obtain ⟨x, hx⟩ : ∃ x, xs[k]? = some x := ⟨xs[k]'(by omega), by simp⟩
          have hcx : wr.cell? ⟨g1, k, none⟩ = some (.int .u8 (x.toNat : Int)) := by
            rw [hbx.cell, List.getElem?_toArray, List.getElem?_append_left (by simp; omega), u8s_get, hx]; rfl
          have hz := hbx.frozen k
          have ixk := fun w' => ix_sl (P := Try.prog) (b := g1) (off := 0) (n := tn) (c := c1) (d := k) Try.underlying22 size_u8 hlk (by omega) (k : Int) rfl w'
          have hkI : (0 : Int) ≤ (k : Int) ∧ (k : Int) < (tn : Int) := by omega
          clear hbx hps hxl hx
          go_wp2_with fail
          go_roundg (tn - (k + 1))
          case measure => omega
          case rel =>
            rw [u8_add1]
            obtain ⟨y, hy⟩ : ∃ y, x + 1 = y := ⟨_, rfl⟩
            rw [hy]
            have hb2 := JB.out.set_ k (.int .u8 (y.toNat : Int))
            have e : (u8s xs ++ tl).toArray.setIfInBounds k (.int .u8 (y.toNat : Int)) = (u8s (xs.set k y) ++ tl).toArray := by
              have hkx : k < xs.length := by rw [JL.out]; exact hlk
              simp [u8s, List.set_append, hkx, List.map_set]
            rw [e] at hb2
            have hf := (Fr.refl [g1] wr).setCell (p := ⟨g1, k, none⟩) (.inl (by simp)) (.int .u8 (y.toNat : Int))
            exact ⟨k + 1, xs.set k y, by omega, rfl, by go_num, by rw [List.length_set]; exact JL.out, hb2, JP.out.frS hf (by simp; exact fun e => HGP.out e.symm) (by simp; exact fun e => HGZ.out e.symm)
              (fun _ b off hb => by have := HGA.out b off hb; simpa using this) (fun _ b off hb => by have := HGZ2.out b off hb; simpa using this) (fun q hq hm => by simp at hm; subst hm; exact HGO.out hq)
              (JP.out.fr.setCell (.inr HGW.out) _)⟩
        · obtain rfl : k = tn := by omega
          clear hbx hps hxl
          have heq := fun w' : World => eq_dig w' (shaB (L ++ t)) (shaB (L ++ t)) (shaB_length _) (shaB_length _)
          simp only [beq_self_eq_true] at heq
          have HDS := Lib.hid (fun (w' : World) (h : Fr [] wr w') => done_calls w' p (L ++ t) As' (JP.out.fr0 h).s)
          have HDZ := Lib.hid (fun (w' : World) (h : Fr [] wr w') => done_calls w' z (L ++ t) Az' (JP.out.fr0 h).t)
          have hor := JP.out.own
          rw [HL2.out] at hor
          have HSU := Lib.hid (fun (w' : World) (h : Fr [] wr w') => sum_calls w' A4 (Ln + k) c4 (L ++ t) HL2.out ((ownB_rd hor).fr h (by simp)) (by omega))
          have HLC := Lib.hid (fun (w' : World) (h : Fr [] wr w') => len_any w' p (L ++ t) As' (JP.out.fr0 h).s ((Ln : Int) + (k : Int)) (by rw [HL2.out]; rfl))
          have FX := Lib.hid (Fr.refl [] wr)
          clear hor
          go_wp2_with (first
            | (go_at_call 13; (with_reducible refine (HDS.out _ FX.out).mono ?_); rintro e w9 ⟨rfl, f9⟩; replace FX := Lib.hid (FX.out.trans f9); clear f9)
            | (go_at_call 13; (with_reducible refine (HDZ.out _ FX.out).mono ?_); rintro e w9 ⟨rfl, f9⟩; replace FX := Lib.hid (FX.out.trans f9); clear f9)
            | (go_at_call 9; (with_reducible refine (HSU.out _ FX.out).mono ?_); rintro e w9 ⟨rfl, f9⟩; replace FX := Lib.hid (FX.out.trans f9); clear f9)
            | (go_at_call 14; (with_reducible refine (HLC.out _ FX.out).mono ?_); rintro e w9 ⟨rfl, f9⟩; replace FX := Lib.hid (FX.out.trans f9); clear f9))
          go_roundg (N - (i + 1))
          case measure => have := HLT.out; omega
          case rel =>
            have e := flat_step ls i t HT.out
            rw [HLE.out] at e
            exact ⟨i + 1, As', Az', by have := HLT.out; omega, rfl, by go_num, by rw [← e]; exact JP.out.fr0 FX.out, HSM2.out⟩
    | false =>
      have hlN : i = N := by
        have := HCC.out
        simp at this
        omega
      obtain ⟨DL, hDL⟩ : ∃ x, shaB L = x := ⟨_, rfl⟩
      obtain ⟨D0, hD0⟩ : ∃ x, shaB [] = x := ⟨_, rfl⟩
      have hdl := shaB_length L
      have hd0 := shaB_length []
      rw [hDL] at hdl
      rw [hD0] at hd0
      have heq := fun w' : World => eq_dig w' DL DL hdl hdl
      have heq0 := fun w' : World => eq_dig w' D0 D0 hd0 hd0
      simp only [beq_self_eq_true] at heq heq0
      obtain ⟨q, hq⟩ : ∃ q, wr.heap.size = q := ⟨_, rfl⟩
      have hz0 := zero_st wr
      have hfa := (Fr.refl [] wr).alloc (.cells (stCells V0 none 0 0 0).toArray 35)
      obtain ⟨W9, hW9⟩ : ∃ W9, wr.alloc (.cells (stCells V0 none 0 0 0).toArray 35) = W9 := ⟨_, rfl⟩
      rw [hW9] at hz0 hfa
      have HW9 := Lib.hid hW9
      have hds := (fun (w' : World) (h : Fr [] W9 w') => done_calls w' p L As (HPW.out.fr0 (hfa.trans h)).s)
      simp only [hDL] at hds
      have HDS := Lib.hid hds
      have hdz := (fun (w' : World) (h : Fr [] W9 w') => done_calls w' wr.heap.size [] none (hz0.fr0 h (by simp) (by simp)))
      simp only [hD0] at hdz
      have HDZ := Lib.hid hdz
      have hor := HPW.out.own
      rw [HLN.out] at hor
      have hsu := (fun (w' : World) (h : Fr [] W9 w') => sum_calls w' Av Ln cv L HLN.out ((ownB_rd hor).fr (hfa.trans h) (by simp)) (by omega))
      simp only [hDL] at hsu
      have HSU := Lib.hid hsu
      have hlc := (fun (w' : World) (h : Fr [] W9 w') => sum_calls w' none 0 0 [] rfl (by simp [Rd]) (by omega))
      simp only [hD0] at hlc
      have HLC := Lib.hid hlc
      have FX := Lib.hid (Fr.refl [] W9)
      have HFA := Lib.hid hfa
      clear hor hz0 hfa hW9 hq hds hdz hsu hlc hDL hD0
      go_upto_region 23 with (first
        | (refine wpList_val (o := ⟨some 83, _, _, _, _, _⟩) rfl (.agg (stCells V0 none 0 0 0).toArray) _ (by kernel_rfl) ?_)
        | (refine box_agg rfl 35 (.tmp 83) rfl (stCells V0 none 0 0 0).toArray rfl ?_))
      rw [HW9.out]
      go_wp2_with (first
        | (go_at_call 13; (with_reducible refine (HDS.out _ FX.out).mono ?_); rintro e w9 ⟨rfl, f9⟩; replace FX := Lib.hid (FX.out.trans f9); clear f9)
        | (go_at_call 13; (with_reducible refine (HDZ.out _ FX.out).mono ?_); rintro e w9 ⟨rfl, f9⟩; replace FX := Lib.hid (FX.out.trans f9); clear f9)
        | (go_at_call 9; (with_reducible refine (HSU.out _ FX.out).mono ?_); rintro e w9 ⟨rfl, f9⟩; replace FX := Lib.hid (FX.out.trans f9); clear f9)
        | (go_at_call 9; (with_reducible refine (HLC.out _ FX.out).mono ?_); rintro e w9 ⟨rfl, f9⟩; replace FX := Lib.hid (FX.out.trans f9); clear f9))
      go_ret
      exact ⟨rfl, (HPW.out.fr.trans HFA.out).trans FX.out⟩
end Go.Proofs.Ytgjcnmlfoagnpaa
