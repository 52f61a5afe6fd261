/- WalWrites: for every byte and every list of steps the law returns true, and the arguments read behind the call as before; no condition. -/
import Derived.Test.YtmmjihkcofgmmaaGm
import Derived.Lib.Builder
import Derived.Test.YtmmjihkcofgmmaaRows
import Derived.WalkKit
import Derived.ProofKit
import Derived.OpenShut
import Derived.ShutString
import Derived.ChangeOld
import Derived.Below

/- The walk of WalWrites. -/
namespace Go.Proofs.Ytmmjihkcofgmmaa
open Go.RowKit
set_option linter.unusedVariables false

set_option maxHeartbeats 8000000 in
set_option maxRecDepth 100000 in
theorem writes_walk08 (w : World) (y : UInt8) (A : Option Addr) (n c : Nat) (l : List St) (hn : l.length = n) (hL : StIn w A l) (hmax : n ≤ maxLen) :
    Calls Try.prog 6 #[.int .u8 (y.toNat : Int), .slice A n c] w (Agg (.bool true) w) := by
  have HAL := Lib.hid (alive08 w)
  have HGR := Lib.hid (fun W (f : Fr [] w W) => great_calls W A n c l hn (hL.fr f) hmax)
  unfold maxLen at hmax
  have hnI : (0 : Int) ≤ (n : Int) := by omega
  by_cases hg : greatB l = true
  · rw [hg] at HGR
    clear hn hL hmax
    go_enter Try.func6, Try.ntmps6
    go_wp2_with (first
      | (go_at_call 8; (with_reducible refine HAL.out.mono ?_); rintro e w2 ⟨rfl, f2⟩; have F2 := Lib.hid f2; clear f2)
      | (go_at_call 20; (with_reducible refine (HGR.out _ F2.out).mono ?_); rintro e w3 ⟨rfl, f3⟩; have F3 := Lib.hid (F2.out.trans f3); clear f3))
    go_ret
    exact ⟨rfl, F3.out⟩
  · have hgf : greatB l = false := by simpa using hg
    rw [hgf] at HGR
    have hy := y.toNat_lt
    obtain ⟨N, hN⟩ : ∃ N, y.toNat % 60 = N := ⟨_, rfl⟩
    have hN80 : N ≤ 60 := by omega
    have HN := Lib.hid hN
    have HL := Lib.hid hL; have HLN := Lib.hid hn; have HG := Lib.hid hgf
    have hNI : (0 : Int) ≤ (N : Int) ∧ (N : Int) ≤ 60 := by omega
    have hyI : (0 : Int) ≤ (y.toNat : Int) ∧ (y.toNat : Int) < 256 := by omega
    obtain ⟨jd, hjd⟩ := Option.isSome_iff_exists.1 (show (Try.prog.info? 60).isSome = true by kernel_rfl)
    have hnep := fun (a : Addr) (w : World) => Lib.run_neq_ptr_same (P := Try.prog) w (tp := 28) a Try.underlying28 hjd
    clear hn hL hmax hg hgf hN hjd
    go_enter Try.func6, Try.ntmps6
    go_upto_block 0 with (first
      | go_big_skip
      | (go_at_call 8; (with_reducible refine HAL.out.mono ?_); rintro e w2 ⟨rfl, f2⟩; have F2 := Lib.hid f2; clear f2)
      | (go_at_call 20; (with_reducible refine (HGR.out _ F2.out).mono ?_); rintro e w3 ⟨rfl, f3⟩; have F3 := Lib.hid (F2.out.trans f3); clear f3)
      | (go_at_call 12; (with_reducible refine (newd_calls _ _ N (by have := HN.out; omega) (by omega)).mono ?_); rintro e w4 ⟨p, g, rfl, hp, hgg, hd4, f4⟩; have HP := Lib.hid (And.intro (Nat.le_trans F3.out.size hp) (Nat.le_trans F3.out.size hgg)); have HO4 := Lib.hid (openl_calls w w4 p g N N _ [] hd4 rfl (Good.new N) (F3.out.trans f4) HP.out.1 HP.out.2 [] (by simp)); clear hp hgg hd4 f4)
      | (go_at_call 14; (with_reducible refine HO4.out.mono ?_); rintro e w5 ⟨x, lv, rfl, _, hl5, _⟩; have HL5 := Lib.hid (show DJ w w5 p g N (Dk.DS.new N) [] x lv (.slice none 0 0) [x, p, g] w4.heap.size from ⟨hl5, ARow.nil _ _, fun q h => (by cases h), fun q _ h => (by cases h), Good.new N, rfl⟩); clear hl5)
      | (go_at_call 25; (with_reducible refine (disk_calls w5 x p lv _ _ _ HL5.out.log.log.head).mono ?_); rintro e w' ⟨rfl, rfl⟩))
    go_wp2_with fail
    go_loopg [9, 10] 30 (fun gg va u wr => ∃ (j : Nat) (s : Dk.DS) (T : List (List UInt8)) (lv' : Value) (D : List Nat) (base : Nat) (aA : Option Addr) (ac : Nat), j ≤ n ∧ j ≤ 30 ∧ gg = 30 - j ∧ u = .int .i64 (j : Int) ∧ va = .slice aA T.length ac ∧ DJ w wr p g N s T x lv' (.slice aA T.length ac) D base ∧ T.length ≤ j ∧ s.writes ≤ 100 * j ∧ s.fuse = -1)
    case atStart => exact ⟨0, _, [], _, _, _, none, 0, by omega, by omega, by omega, rfl, rfl, HL5.out, Nat.zero_le _, Nat.zero_le _, rfl⟩
    case round =>
      rename World => wr
      obtain ⟨j, s, T, lv', D, base, aA, ac, hj, hj30, rfl, rfl, rfl, hI0, hTj, hwj, hfj⟩ := hrel
      have HI := Lib.hid hI0
      have hjI : (0 : Int) ≤ (j : Int) := by omega
      clear hI0
      by_cases hlt : j < n
      · by_cases h30 : j < 30
        · obtain ⟨st, hst⟩ : ∃ st, l[j]? = some st := ⟨l[j]'(by have := HLN.out; omega), by simp⟩
          obtain ⟨bA, oA, A', c', hA, hc0, hcap, hrd, _, _, _⟩ := HL.out.at HI.out.log.fr hst
          subst hA
          have hbw : bA < w.heap.size := by
            obtain ⟨b2, o2, _, _, e2, hb2, _⟩ := HL.out j st hst
            injection e2 with e2
            injection e2 with e2
            omega
          have hst1 := great_small HG.out hst (by omega)
          obtain ⟨k1, hk1⟩ : ∃ k1, st.B.length = k1 := ⟨_, rfl⟩
          have hng : needN st.B.length ≤ 50 := by rw [needN_le _ (by omega)]; omega
          have hix := fun w' => run_index_slice' (P := Try.prog) (t := 45) (size := 4) w' Try.underlying45 size_step (A := some ⟨bA, oA, none⟩) (n := n) (c := c) (j := j) rfl hlt
          have hltI : (j : Int) < (n : Int) ∧ (j : Int) < 30 := by omega
          have HC0 := Lib.hid (fun W (f : Fr [] w W) => (show W.cell? ⟨bA, oA + j * 4, none⟩ = some (.slice A' k1 c') from ((f.cell (p := ⟨bA, oA + j * 4, none⟩) hbw (by simp)).trans ((HI.out.log.fr.cell (p := ⟨bA, oA + j * 4, none⟩) hbw (by simp)).symm.trans (hk1 ▸ hc0)))))
          rw [hk1] at hc0
          obtain ⟨er, s', T', hR, hd', hG', hf', ht', _, hw', hcase⟩ := appR_any (b := st.B) HI.out.good HI.out.alive HI.out.log.log.disk.torn (.inl hfj) (by omega)
          have hc0a := HC0.out (wr.alloc (.cells #[] 5)) (HI.out.log.fr.alloc _)
          have HRDD := Lib.hid hrd; have HK1 := Lib.hid hk1; have HRR := Lib.hid hR
          have HS' := Lib.hid (And.intro hd' (And.intro hG' (And.intro (hf' hfj) (show s'.writes ≤ 100 * (j + 1) by omega))))
          have HCASE := Lib.hid hcase
          have HTJ := Lib.hid (show T'.length ≤ j + 1 from by
            rcases hcase with ⟨_, _, _, h⟩ | ⟨_, _, h⟩
            · rw [h]; omega
            · rw [h, List.length_append, List.length_singleton]; omega)
          have HTB := Lib.hid (show T.length ≤ 100000 by omega)
          have hkI : (0 : Int) ≤ (k1 : Int) ∧ (k1 : Int) ≤ 1000 := by omega
          clear hst hst1 hcap hng hR hd' hG' hf' ht' hw' hcase hk1
          go_upto_region 15 with (first
            | (at_builtin; refine copyU8 rfl (.tmp 54) (.tmp 59) rfl wr wr.heap.size rfl rfl rfl A' k1 c' st.B rfl HK1.out (HRDD.out.fr HI.out.log.fr (by simp)) (by omega) ?_; intro β cβ w6 ho6 f6; obtain ⟨_, tl6, e6, hb6, hk6, _⟩ := ownB_blk ho6 (by simp); injection e6 with e6; injection e6 with e6; subst e6; have HB6 := Lib.hid hk6; have HLT6 := Lib.hid hb6;
                have HL6 := Lib.hid (HI.out.log.grow f6 hb6 hk6.lt); have HA6 := Lib.hid (HI.out.row.fr0 f6); have HAP := Lib.hid (HL6.out.append (some ⟨β, 0, none⟩) k1 cβ st.B HK1.out (by omega) (own_le ho6) (own_rn ho6) (fun _ q off hq => by injection hq with hq; injection hq with hq; subst hq; have h1 := HI.out.log.log.hD x HI.out.log.log.hx; have h2 := HI.out.log.log.hD p HI.out.log.log.hp; have h3 := HI.out.log.log.hD g HI.out.log.log.hg; omega) (by omega) _ HRR.out); clear ho6 f6 hb6 hk6)
            | (go_at_call 21; (with_reducible refine HAP.out.mono ?_); rintro e w7 ⟨lv7, rfl, hl7, f7, hq7⟩; have HL7 := Lib.hid (show LS w w7 x p g N N s' lv7 T' false (β :: D) base from hl7); have HA7 := Lib.hid (HA6.out.app HL6.out HI.out.hne f7);
                have HQ7 := Lib.hid (show ∀ q, lv7.ownBlock = some q → (Value.slice aA T.length ac).ownBlock ≠ some q from fun q h1 h2 => by
                  rcases hq7 q h1 with h | h
                  · exact HI.out.hne q h h2
                  · have := (HA6.out.lt q h2).2
                    omega);
                have HB7 := Lib.hid (show Blk w7 β 5 (u8s st.B ++ tl6).toArray from HB6.out.fr f7 (fun hm => by
                  have h1 := HI.out.log.log.hD x HI.out.log.log.hx
                  have h2 := HI.out.log.log.hD p HI.out.log.log.hp
                  have h3 := HI.out.log.log.hD g HI.out.log.log.hg
                  have h4 := HLT6.out
                  rcases List.mem_cons.1 hm with h | hm
                  · omega
                  · rcases List.mem_cons.1 hm with h | hm
                    · omega
                    · rcases List.mem_cons.1 hm with h | hm
                      · omega
                      · have := (HI.out.log.log.rows.lt β (by simpa using hm)).2
                        omega)); clear hl7 f7 hq7 HAP))
          go_upto_block 2 with fail
          go_cut [13] (fun v wc => LS w wc x p g N N s' lv7 T' false (β :: D) base ∧ ARow w wc (.slice aA T.length ac) T)
          case first =>
            go_wp2_with fail
            go_loopg [13] k1 (fun gg u wq => ∃ (k : Nat) (bs : List UInt8), k ≤ k1 ∧ gg = k1 - k ∧ u = .int .i64 (k : Int) ∧ bs.length = k1 ∧ Blk wq β 5 (u8s bs ++ tl6).toArray ∧ LS w wq x p g N N s' lv7 T' false (β :: D) base ∧ ARow w wq (.slice aA T.length ac) T)
            case atStart => exact ⟨0, st.B, by omega, by omega, rfl, HK1.out, HB7.out, HL7.out, HA7.out⟩
            case round =>
              rename World => wq
              obtain ⟨k, bs, hk, rfl, rfl, hbl, hbb, hbL, hbA⟩ := hrel
              have HBB := Lib.hid hbb; have HBL := Lib.hid hbL; have HBA := Lib.hid hbA; have HBN := Lib.hid hbl
              have hkkI : (0 : Int) ≤ (k : Int) ∧ (k : Int) ≤ 1000 := by omega
              by_cases hkl : k < k1
              · obtain ⟨t, ht⟩ : ∃ t, bs[k]? = some t := ⟨_, List.getElem?_eq_getElem (by omega)⟩
                have hcell : wq.cell? ⟨β, k, none⟩ = some (.int .u8 (t.toNat : Int)) := by rw [hbb.cell, List.getElem?_toArray, List.getElem?_append_left (by rw [u8s_length]; omega), u8s_get, ht]; rfl
                have hfz := hbb.frozen k
                have hixb := fun w' => ix_sl0 (P := Try.prog) (b := β) (off := 0) (n := k1) (c := cβ) (j := k) Try.underlying26 Dk.sizeU8 hkl w'
                simp only [Nat.zero_add] at hixb
                have hklI : (k : Int) < (k1 : Int) := by omega
                have htt := t.toNat_lt
                have htI : (0 : Int) ≤ (t.toNat : Int) ∧ (t.toNat : Int) < 256 := by omega
                clear hbb hbL hbA hbl ht
                go_wp2_with fail
                go_roundg (k1 - (k + 1))
                case measure => omega
                case rel =>
                  have hw : (wrapU8 t) = ((t + 1).toNat : Int) := wrapU8_eq t
                  have hset := HBB.out.set_ k (.int .u8 (wrapU8 t))
                  have hF : Fr [β] wq (wq.setCell ⟨β, k, none⟩ (.int .u8 (wrapU8 t))) := (Fr.refl [β] wq).setCell (.inl (by simp)) _
                  refine ⟨k + 1, bs.set k (t + 1), by omega, rfl, by go_num, by rw [List.length_set]; exact HBN.out, ?_, HBL.out.frB HBB.out (by simp) (by have := HLT6.out; have := HI.out.log.fr.size; omega) hF, HBA.out.frB HBB.out hF⟩
                  rw [hw] at hset
                  rw [← u8s_setA _ _ _ (by have := HBN.out; omega)]
                  exact hset
              · have hklI : (k1 : Int) ≤ (k : Int) := by omega
                clear hbb hbL hbA hbl
                go_wp2_with fail
                go_meet
                exact ⟨HBL.out, HBA.out⟩
          case rest =>
            obtain ⟨hlc, hac⟩ := hcut
            have HLC := Lib.hid hlc; have HAC := Lib.hid hac
            obtain ⟨K, hK⟩ : ∃ K, kT T = K := ⟨_, rfl⟩
            obtain ⟨M, hM⟩ : ∃ M, (allB T).length = M := ⟨_, rfl⟩
            have hMK : M = 64 * K := by rw [← hM, allB_length T HI.out.log.log.hs, hK]
            have hKN : K ≤ 60 := by have := HI.out.log.log.hk; omega
            obtain ⟨ND, hND⟩ : ∃ ND, needN k1 = ND := ⟨_, rfl⟩
            have hNDb : ND ≤ 100 := by rw [← hND, needN_le k1 (by omega)]; omega
            have hq : (M : Int).tdiv 64 = (K : Int) := by rw [hMK]; exact tdiv64 K
            have hnd : needZ (k1 : Int) = (ND : Int) := by rw [needZ_nat k1 (by omega), hND]
            have HAT := Lib.hid (hM ▸ all08_calls wc aA T.length ac T rfl (hac.inB hlc.fr) (by have := HTB.out; omega) HI.out.log.log.hs (by rw [hM]; omega))
            have HRN := Lib.hid (fun W => (hnd ▸ rneed_calls W (k1 : Int) (by omega) (by omega)))
            have hKI : (0 : Int) ≤ (K : Int) ∧ (K : Int) ≤ 60 ∧ (0 : Int) ≤ (ND : Int) ∧ (ND : Int) ≤ 100 ∧ (0 : Int) ≤ (M : Int) ∧ (M : Int) ≤ 4000 := by omega
            have hcase2 : (N < K + ND ∧ er = 12 ∧ s' = s ∧ T' = T) ∨ (K + ND ≤ N ∧ er = 0 ∧ T' = T ++ [st.B]) := by have := HCASE.out; rwa [HK1.out, hND, hK] at this
            clear hlc hac hK hM hND hnd
            go_upto_if 86 with (first
              | (go_at_call 11; (with_reducible refine HAT.out.mono ?_); rintro e w8 ⟨A8, c8, rfl, _, f8⟩; have HL8 := Lib.hid (HLC.out.to f8); have HA8 := Lib.hid (HAC.out.fr0 f8); clear f8)
              | (go_at_call 10; (with_reducible refine (HRN.out _).mono ?_); rintro e w' ⟨rfl, rfl⟩)
              | (go_at_call 26; (with_reducible refine (Dk.len_calls w8 p g N N s' HL8.out.log.disk).mono ?_); rintro e w' ⟨rfl, rfl⟩))
            go_cut [9] (fun va wd => ∃ aB bc D2, va = .slice aB T'.length bc ∧ LS w wd x p g N N s' lv7 T' false D2 base ∧ ARow w wd (.slice aB T'.length bc) T' ∧ (∀ q, (Value.slice aB T'.length bc).ownBlock = some q → q ∈ D2) ∧ ∀ q, lv7.ownBlock = some q → (Value.slice aB T'.length bc).ownBlock ≠ some q)
            case first =>
              rcases hcase2 with ⟨hfull, rfl, _, hTT⟩ | ⟨hroom, rfl, hTT⟩
              · obtain rfl : T = T' := hTT.symm
                have hdI : (N : Int) < (K : Int) + (ND : Int) := by omega
                go_wp2_with fail
                go_meet
                exact ⟨aA, ac, β :: D, rfl, HL8.out, HA8.out, fun q h => List.mem_cons_of_mem _ (HI.out.hD q h), HQ7.out⟩
              · have hdI : (K : Int) + (ND : Int) ≤ (N : Int) := by omega
                have HTT := Lib.hid hTT
                have hc8 := HC0.out w8 HL8.out.fr
                clear hTT
                go_wp2_with (at_builtin; have f5 := (Fr.refl [] w8).alloc (.cells #[.slice A' k1 c'] 26); refine wpList_appA rfl (.tmp 91) (.tmp 97) 98 rfl rfl w (.slice aA T.length ac) T rfl (HA8.out.fr0 f5) st.B A' k1 c' w8.heap.size 1 HK1.out rfl (Blk.new w8 _ _) HRDD.out (by have := HTB.out; omega) (HL8.out.fr.trans f5).size ?_; intro va9 w9 ha9 f9 hq9; obtain ⟨D', hl9, hd9, hn9⟩ := (HL8.out.to f5).appA (HA8.out.fr0 f5) ha9 (fun q h => List.mem_cons_of_mem _ (HI.out.hD q h)) HQ7.out f9 hq9; rw [← HTT.out] at ha9; obtain ⟨aB, bc, hv9, _⟩ := ha9.toIn hl9.fr; have HV9 := Lib.hid hv9; have HL9 := Lib.hid hl9; have HA9 := Lib.hid ha9; have HD9 := Lib.hid hd9; have HN9 := Lib.hid hn9; clear hl9 ha9 hd9 hn9 f9 hq9 f5 hv9)
                go_meet
                refine ⟨aB, bc, D', HV9.out, HL9.out, HV9.out ▸ HA9.out, HV9.out ▸ HD9.out, HV9.out ▸ HN9.out⟩
            case rest =>
              obtain ⟨aB, bc, D2, rfl, hl8, ha8, hd8, hn8⟩ := hcut
              have HL9 := Lib.hid hl8; have HA9 := Lib.hid ha8; have HD9 := Lib.hid hd8; have HN9 := Lib.hid hn8
              obtain ⟨K', hK'⟩ : ∃ K', kT T' = K' := ⟨_, rfl⟩
              obtain ⟨M', hM'⟩ : ∃ M', (allB T').length = M' := ⟨_, rfl⟩
              have hMK' : M' = 64 * K' := by rw [← hM', allB_length T' hl8.log.hs, hK']
              have hKN' : K' ≤ N := by have := hl8.log.hk; omega
              have hq' : (M' : Int).tdiv 64 = (K' : Int) := by rw [hMK']; exact tdiv64 K'
              have HTL' := Lib.hid (show T'.length ≤ 4096 by have := hl8.log.hT; have := hl8.log.hk; omega)
              have HAT' := Lib.hid (hM' ▸ all08_calls wc aB T'.length bc T' rfl (ha8.inB hl8.fr) (by have := HTL'.out; omega) hl8.log.hs (by rw [hM']; omega))
              have HPRE := Lib.hid (show s'.bs.take M' = allB T' by rw [hMK', ← hK']; exact HS'.out.2.1.pre)
              have HM' := Lib.hid hM'; have HK' := Lib.hid hK'; have HMK' := Lib.hid hMK'; have HKN' := Lib.hid hKN'; have HQ' := Lib.hid hq'
              have hKI' : (0 : Int) ≤ (K' : Int) ∧ (K' : Int) ≤ (N : Int) ∧ (0 : Int) ≤ (M' : Int) ∧ (M' : Int) ≤ 4000 := by omega
              clear hl8 ha8 hd8 hn8 hK' hM' hMK' hKN' hMK hq hcase2
              go_upto_region 27 with (first
                | (go_at_call 11; (with_reducible refine HAT'.out.mono ?_); rintro e w10 ⟨AW, cw, rfl, ho10, f10⟩; have HL10 := Lib.hid (HL9.out.to f10); have HA10 := Lib.hid (HA9.out.fr0 f10); have HRW10 := Lib.hid (own_rn ho10); have HAY := Lib.hid ((Dk.all_calls w10 p g N N s' HL10.out.log.disk).mono fun e w' h => OwnBytes.toN HL10.out.log.disk.len h); clear ho10 f10)
                | (go_at_call 27; (with_reducible refine HAY.out.mono ?_); rintro e w11 ⟨AY, cy, rfl, ho11, f11⟩; have HL11 := Lib.hid (HL10.out.to f11); have HA11 := Lib.hid (HA10.out.fr0 f11); have HRW11 := Lib.hid (HRW10.out.fr f11 (by simp)); have HRY11 := Lib.hid (own_rn ho11); have HCY := Lib.hid (own_le ho11); have HO11 := Lib.hid ho11; clear ho11 f11))
              have hcyI : (M' : Int) ≤ (cy : Int) := by have := HCY.out; have := HMK'.out; have := HKN'.out; omega
              have hS0 : OldW w11 w11.drew := (Fr.refl [] w11).drew
              refine sqo_begin (w0 := w11) (by kernel_rfl) ?_
              refine sqo_take (i := 0) (v := (.slice AY (64 * N) cy)) (d := 103) rfl (by kernel_rfl) (by kernel_rfl) (by kernel_rfl) (by kernel_rfl) (by kernel_rfl) (fun _ _ _ h => h) ?_ (by assumption) ?_
              · intro w9 h9; kernel_rfl
              try simp only [Act.put, List.setIfInBounds_toArray, List.set_cons_zero, List.set_cons_succ]
              refine sqo_take (i := 1) (v := (.slice AW M' cw)) (d := 104) rfl (by kernel_rfl) (by kernel_rfl) (by kernel_rfl) (by kernel_rfl) (by kernel_rfl) (fun _ _ _ h => h) ?_ (by assumption) ?_
              · intro w9 h9; kernel_rfl
              try simp only [Act.put, List.setIfInBounds_toArray, List.set_cons_zero, List.set_cons_succ]
              refine sqo_take (i := 2) (v := (.int .i64 (M' : Int))) (d := 105) rfl (by kernel_rfl) (by kernel_rfl) (by kernel_rfl) (by kernel_rfl) (by kernel_rfl) (fun _ _ _ h => h) ?_ (by assumption) ?_
              · intro w9 h9; kernel_rfl
              try simp only [Act.put, List.setIfInBounds_toArray, List.set_cons_zero, List.set_cons_succ]
              refine sqo_take (i := 3) (v := (.slice AY M' cy)) (d := 106) rfl (by kernel_rfl) (by kernel_rfl) (by kernel_rfl) (by kernel_rfl) (by kernel_rfl) (fun _ _ _ h => h) ?_ (by assumption) ?_
              · intro w9 h9; first | (go_simp; done) | (go_simp; omega)
              try simp only [Act.put, List.setIfInBounds_toArray, List.set_cons_zero, List.set_cons_succ]
              refine sqo_take (i := 4) (v := (.string (str (allB T')))) (d := 107) rfl (by kernel_rfl) (by kernel_rfl) (by kernel_rfl) (by kernel_rfl) (by kernel_rfl) (fun _ _ _ h => h) ?_ (by assumption) ?_
              · intro w9 h9; exact exec_conv_m (c := cy) rfl Try.underlying26 Try.underlying5 Try.underlying9 HM'.out (by kernel_rfl) (HPRE.out ▸ (HRY11.out.fr h9 (by simp)).take' M')
              try simp only [Act.put, List.setIfInBounds_toArray, List.set_cons_zero, List.set_cons_succ]
              refine sqo_take (i := 5) (v := (.slice AW M' cw)) (d := 108) rfl (by kernel_rfl) (by kernel_rfl) (by kernel_rfl) (by kernel_rfl) (by kernel_rfl) (fun _ _ _ h => h) ?_ (by assumption) ?_
              · intro w9 h9; kernel_rfl
              try simp only [Act.put, List.setIfInBounds_toArray, List.set_cons_zero, List.set_cons_succ]
              refine sqo_take (i := 6) (v := (.string (str (allB T')))) (d := 109) rfl (by kernel_rfl) (by kernel_rfl) (by kernel_rfl) (by kernel_rfl) (by kernel_rfl) (fun _ _ _ h => h) ?_ (by assumption) ?_
              · intro w9 h9; exact exec_conv_m (c := cw) rfl Try.underlying26 Try.underlying5 Try.underlying9 HM'.out (by kernel_rfl) (HRW11.out.fr h9 (by simp))
              try simp only [Act.put, List.setIfInBounds_toArray, List.set_cons_zero, List.set_cons_succ]
              refine sqo_take (i := 7) (v := (.bool false)) (d := 110) rfl (by kernel_rfl) (by kernel_rfl) (by kernel_rfl) (by kernel_rfl) (by kernel_rfl) (fun _ _ _ h => h) ?_ (by assumption) ?_
              · intro w9 h9; exact ex_neq_strW rfl (by kernel_rfl) (by kernel_rfl) (show (allB T' == allB T') = !false from beq_self_eq_true _)
              try simp only [Act.put, List.setIfInBounds_toArray, List.set_cons_zero, List.set_cons_succ]
              refine sqo_take (i := 8) (v := (.bool false)) (d := 111) rfl (by kernel_rfl) (by kernel_rfl) (by kernel_rfl) (by kernel_rfl) (by kernel_rfl) (fun _ _ _ h => h) ?_ (by assumption) ?_
              · intro w9 h9; kernel_rfl
              try simp only [Act.put, List.setIfInBounds_toArray, List.set_cons_zero, List.set_cons_succ]
              refine sqo_take (i := 9) (v := (.pointer (some ⟨x, 0, none⟩))) (d := 112) rfl (by kernel_rfl) (by kernel_rfl) (by kernel_rfl) (by kernel_rfl) (by kernel_rfl) (fun _ _ _ h => h) ?_ (by assumption) ?_
              · intro w9 h9; kernel_rfl
              try simp only [Act.put, List.setIfInBounds_toArray, List.set_cons_zero, List.set_cons_succ]
              refine sqo_take (i := 11) (v := (.pointer (some ⟨p, 0, none⟩))) (d := 114) rfl (by kernel_rfl) (by kernel_rfl) (by kernel_rfl) (by kernel_rfl) (by kernel_rfl) (fun _ _ _ h => h) ?_ (by assumption) ?_
              · intro w9 h9; kernel_rfl
              try simp only [Act.put, List.setIfInBounds_toArray, List.set_cons_zero, List.set_cons_succ]
              refine sqo_take (i := 13) (v := (.slice AW M' cw)) (d := 116) rfl (by kernel_rfl) (by kernel_rfl) (by kernel_rfl) (by kernel_rfl) (by kernel_rfl) (fun _ _ _ h => h) ?_ (by assumption) ?_
              · intro w9 h9; kernel_rfl
              try simp only [Act.put, List.setIfInBounds_toArray, List.set_cons_zero, List.set_cons_succ]
              refine sqo_take (i := 14) (v := (.int .i64 (M' : Int))) (d := 117) rfl (by kernel_rfl) (by kernel_rfl) (by kernel_rfl) (by kernel_rfl) (by kernel_rfl) (fun _ _ _ h => h) ?_ (by assumption) ?_
              · intro w9 h9; kernel_rfl
              try simp only [Act.put, List.setIfInBounds_toArray, List.set_cons_zero, List.set_cons_succ]
              refine sqo_take (i := 15) (v := (.int .i64 (K' : Int))) (d := 118) rfl (by kernel_rfl) (by kernel_rfl) (by kernel_rfl) (by kernel_rfl) (by kernel_rfl) (fun _ _ _ h => h) ?_ (by assumption) ?_
              · intro w9 h9; go_simp; rw [IntKind.wrap_i64] <;> omega
              try simp only [Act.put, List.setIfInBounds_toArray, List.set_cons_zero, List.set_cons_succ]
              refine sqo_only (i := 10) rfl (by kernel_rfl) (by kernel_rfl) ?_
              have hr10 := fun (a₀ : Act) (o₀ : Oper) (K₀ : Act → World → Prop) (Q₀ : Exit → Act → World → Prop) => @sq_call Try.prog Q₀ a₀ o₀ w11.drew K₀ (Agg (.int .i64 ((N : Int) - (K' : Int))) w11.drew) 23 #[.pointer (some ⟨x, 0, none⟩)] 113
              refine hr10 _ _ _ _ ?_ ?_ ?_ ?_
              · kernel_rfl
              · kernel_rfl
              · exact (HK'.out ▸ logfree_calls w11.drew x p g N N s' lv7 T' _ _ _ _ (HL11.out.to hS0).log)
              rintro e wa ⟨rfl, f8⟩
              have hS1 := OldW.step hS0 f8
              clear f8
              refine ⟨_, rfl, hS1, ?_⟩
              clear hr10
              try simp only [Act.put, List.setIfInBounds_toArray, List.set_cons_zero, List.set_cons_succ]
              refine sqo_only (i := 12) rfl (by kernel_rfl) (by kernel_rfl) ?_
              have hr12 := fun (a₀ : Act) (o₀ : Oper) (K₀ : Act → World → Prop) (Q₀ : Exit → Act → World → Prop) => @sq_call Try.prog Q₀ a₀ o₀ wa K₀ (fun e w' => e = .returned (.int .i64 (N : Int)) ∧ wa = w') 26 #[.pointer (some ⟨p, 0, none⟩)] 115
              refine hr12 _ _ _ _ ?_ ?_ ?_ ?_
              · kernel_rfl
              · kernel_rfl
              · exact (Dk.len_calls wa p g N N s' (HL11.out.to hS1).log.disk)
              rintro e wq ⟨rfl, rfl⟩
              refine ⟨_, rfl, hS1, ?_⟩
              clear hr12
              try simp only [Act.put, List.setIfInBounds_toArray, List.set_cons_zero, List.set_cons_succ]
              refine sqo_take (i := 16) (v := (.int .i64 ((N : Int) - (K' : Int)))) (d := 119) rfl (by kernel_rfl) (by kernel_rfl) (by kernel_rfl) (by kernel_rfl) (by kernel_rfl) (fun _ _ _ h => h) ?_ (by assumption) ?_
              · intro w9 h9; go_simp; rw [IntKind.wrap_i64] <;> omega
              try simp only [Act.put, List.setIfInBounds_toArray, List.set_cons_zero, List.set_cons_succ]
              refine sqo_take (i := 17) (v := (.bool false)) (d := 120) rfl (by kernel_rfl) (by kernel_rfl) (by kernel_rfl) (by kernel_rfl) (by kernel_rfl) (fun _ _ _ h => h) ?_ (by assumption) ?_
              · intro w9 h9; go_simp
              try simp only [Act.put, List.setIfInBounds_toArray, List.set_cons_zero, List.set_cons_succ]
              refine sqo_take (i := 18) (v := (.bool false)) (d := 121) rfl (by kernel_rfl) (by kernel_rfl) (by kernel_rfl) (by kernel_rfl) (by kernel_rfl) (fun _ _ _ h => h) ?_ (by assumption) ?_
              · intro w9 h9; kernel_rfl
              try simp only [Act.put, List.setIfInBounds_toArray, List.set_cons_zero, List.set_cons_succ]
              refine sqo_take (i := 19) (v := (.bool false)) (d := 122) rfl (by kernel_rfl) (by kernel_rfl) (by kernel_rfl) (by kernel_rfl) (by kernel_rfl) (fun _ _ _ h => h) ?_ (by assumption) ?_
              · intro w9 h9; kernel_rfl
              try simp only [Act.put, List.setIfInBounds_toArray, List.set_cons_zero, List.set_cons_succ]
              refine sqo_take (i := 20) (v := (.pointer (some ⟨x, 0, none⟩))) (d := 123) rfl (by kernel_rfl) (by kernel_rfl) (by kernel_rfl) (by kernel_rfl) (by kernel_rfl) (fun _ _ _ h => h) ?_ (by assumption) ?_
              · intro w9 h9; kernel_rfl
              try simp only [Act.put, List.setIfInBounds_toArray, List.set_cons_zero, List.set_cons_succ]
              refine sqo_take (i := 22) (v := (.slice aB T'.length bc)) (d := 125) rfl (by kernel_rfl) (by kernel_rfl) (by kernel_rfl) (by kernel_rfl) (by kernel_rfl) (fun _ _ _ h => h) ?_ (by assumption) ?_
              · intro w9 h9; kernel_rfl
              try simp only [Act.put, List.setIfInBounds_toArray, List.set_cons_zero, List.set_cons_succ]
              refine sqo_only (i := 21) rfl (by kernel_rfl) (by kernel_rfl) ?_
              have hr21 := fun (a₀ : Act) (o₀ : Oper) (K₀ : Act → World → Prop) (Q₀ : Exit → Act → World → Prop) => @sq_call Try.prog Q₀ a₀ o₀ wa K₀ (Agg (.agg (u8s (lastR T')).toArray) wa) 18 #[.pointer (some ⟨x, 0, none⟩)] 124
              refine hr21 _ _ _ _ ?_ ?_ ?_ ?_
              · kernel_rfl
              · kernel_rfl
              · exact (last_calls wa x p lv7 _ _ _ (lastR_length T') (HL11.out.to hS1).log.head)
              rintro e wb ⟨rfl, f8⟩
              have hS2 := OldW.step hS1 f8
              clear f8
              refine ⟨_, rfl, hS2, ?_⟩
              clear hr21
              try simp only [Act.put, List.setIfInBounds_toArray, List.set_cons_zero, List.set_cons_succ]
              refine sqo_only (i := 23) rfl (by kernel_rfl) (by kernel_rfl) ?_
              have hr23 := fun (a₀ : Act) (o₀ : Oper) (K₀ : Act → World → Prop) (Q₀ : Exit → Act → World → Prop) => @sq_call Try.prog Q₀ a₀ o₀ wb K₀ (Agg (.agg (u8s (lastR T')).toArray) wb) 19 #[.slice aB T'.length bc] 126
              refine hr23 _ _ _ _ ?_ ?_ ?_ ?_
              · kernel_rfl
              · kernel_rfl
              · exact (last08_calls wb aB T'.length bc T' rfl ((HA11.out.fr0 hS2).inB (HL11.out.to hS2).fr) (by have := HTL'.out; omega) (fun t ht => by have := HL11.out.log.hs t ht; omega))
              rintro e wcc ⟨rfl, f8⟩
              have hS3 := OldW.step hS2 f8
              clear f8
              refine ⟨_, rfl, hS3, ?_⟩
              clear hr23
              try simp only [Act.put, List.setIfInBounds_toArray, List.set_cons_zero, List.set_cons_succ]
              refine sqo_take (i := 24) (v := (.bool false)) (d := 127) rfl (by kernel_rfl) (by kernel_rfl) (by kernel_rfl) (by kernel_rfl) (by kernel_rfl) (fun _ _ _ h => h) ?_ (by assumption) ?_
              · intro w9 h9; exact ex_neq_same w9 rfl (lastR T') (by kernel_rfl) (by kernel_rfl) (lastR_length _)
              try simp only [Act.put, List.setIfInBounds_toArray, List.set_cons_zero, List.set_cons_succ]
              refine sqo_take (i := 25) (v := (.bool false)) (d := 128) rfl (by kernel_rfl) (by kernel_rfl) (by kernel_rfl) (by kernel_rfl) (by kernel_rfl) (fun _ _ _ h => h) ?_ (by assumption) ?_
              · intro w9 h9; kernel_rfl
              try simp only [Act.put, List.setIfInBounds_toArray, List.set_cons_zero, List.set_cons_succ]
              refine sqo_take (i := 26) (v := (.bool false)) (d := 129) rfl (by kernel_rfl) (by kernel_rfl) (by kernel_rfl) (by kernel_rfl) (by kernel_rfl) (fun _ _ _ h => h) ?_ (by assumption) ?_
              · intro w9 h9; kernel_rfl
              try simp only [Act.put, List.setIfInBounds_toArray, List.set_cons_zero, List.set_cons_succ]
              refine sqo_take (i := 27) (v := (.pointer (some ⟨x, 0, none⟩))) (d := 130) rfl (by kernel_rfl) (by kernel_rfl) (by kernel_rfl) (by kernel_rfl) (by kernel_rfl) (fun _ _ _ h => h) ?_ (by assumption) ?_
              · intro w9 h9; kernel_rfl
              try simp only [Act.put, List.setIfInBounds_toArray, List.set_cons_zero, List.set_cons_succ]
              refine sqo_take (i := 29) (v := (.slice aB T'.length bc)) (d := 132) rfl (by kernel_rfl) (by kernel_rfl) (by kernel_rfl) (by kernel_rfl) (by kernel_rfl) (fun _ _ _ h => h) ?_ (by assumption) ?_
              · intro w9 h9; kernel_rfl
              try simp only [Act.put, List.setIfInBounds_toArray, List.set_cons_zero, List.set_cons_succ]
              refine sqo_only (i := 28) rfl (by kernel_rfl) (by kernel_rfl) ?_
              have hr28 := fun (a₀ : Act) (o₀ : Oper) (K₀ : Act → World → Prop) (Q₀ : Exit → Act → World → Prop) => @sq_call Try.prog Q₀ a₀ o₀ wcc K₀ (fun e w' => ∃ A c, e = .returned (.slice A T'.length c) ∧ TxRow w' (.slice A T'.length c) [] wcc.heap.size T' ∧ Fr [] wcc w') 17 #[.pointer (some ⟨x, 0, none⟩)] 131
              refine hr28 _ _ _ _ ?_ ?_ ?_ ?_
              · kernel_rfl
              · kernel_rfl
              · exact (rec_calls wcc x p g N N s' lv7 T' _ _ _ _ (HL11.out.to hS3).log [] (by simp))
              rintro e we ⟨GA, gc, rfl, ht2, f8⟩
              have hS4 := OldW.step hS3 f8
              have HTG := Lib.hid ht2
              clear f8 ht2
              refine ⟨_, rfl, hS4, ?_⟩
              clear hr28
              try simp only [Act.put, List.setIfInBounds_toArray, List.set_cons_zero, List.set_cons_succ]
              refine sqo_only (i := 30) rfl (by kernel_rfl) (by kernel_rfl) ?_
              have hr30 := fun (a₀ : Act) (o₀ : Oper) (K₀ : Act → World → Prop) (Q₀ : Exit → Act → World → Prop) => @sq_call Try.prog Q₀ a₀ o₀ we K₀ (Agg (.bool true) we) 16 #[.slice GA T'.length gc, .slice aB T'.length bc] 133
              refine hr30 _ _ _ _ ?_ ?_ ?_ ?_
              · kernel_rfl
              · kernel_rfl
              · exact (same_self we GA T'.length gc T' rfl HTG.out.inB aB T'.length bc T' rfl ((HA11.out.fr0 hS4).inB (HL11.out.to hS4).fr) (by have := HTL'.out; omega) rfl)
              rintro e w12 ⟨rfl, f8⟩
              have hS5 := OldW.step hS4 f8
              clear f8
              refine ⟨_, rfl, hS5, ?_⟩
              clear hr30
              try simp only [Act.put, List.setIfInBounds_toArray, List.set_cons_zero, List.set_cons_succ]
              refine sqo_take (i := 31) (v := (.bool false)) (d := 134) rfl (by kernel_rfl) (by kernel_rfl) (by kernel_rfl) (by kernel_rfl) (by kernel_rfl) (fun _ _ _ h => h) ?_ (by assumption) ?_
              · intro w9 h9; kernel_rfl
              try simp only [Act.put, List.setIfInBounds_toArray, List.set_cons_zero, List.set_cons_succ]
              refine sqo_take (i := 32) (v := (.bool false)) (d := 135) rfl (by kernel_rfl) (by kernel_rfl) (by kernel_rfl) (by kernel_rfl) (by kernel_rfl) (fun _ _ _ h => h) ?_ (by assumption) ?_
              · intro w9 h9; kernel_rfl
              try simp only [Act.put, List.setIfInBounds_toArray, List.set_cons_zero, List.set_cons_succ]
              refine wpAnyH_done (by kernel_rfl) ?_ _
              have HOF := Lib.hid hS5
              have HL12 := Lib.hid (HL11.out.to hS5)
              have HA12 := Lib.hid (HA11.out.fr0 hS5)
              clear hS0 hS1 hS2 hS3 hS4 hS5
              have H64 := Lib.hid HL11.out.log.disk.len
              by_cases hend : K' = N
              · have hgt : ¬ M' < 64 * N := by have := HMK'.out; omega
                obtain ⟨NN, hNN⟩ : ∃ NN, 64 * N = NN := ⟨_, rfl⟩
                rw [hNN] at hgt ⊢
                go_wp2_with go_big_skip
                go_roundg (30 - (j + 1))
                case measure => omega
                case rel => exact ⟨j + 1, s', T', lv7, D2, base, aB, bc, by omega, by omega, rfl, by go_num, rfl, ⟨HL12.out, HA12.out, HD9.out, HN9.out, HS'.out.2.1, HS'.out.1⟩, HTJ.out, HS'.out.2.2.2, HS'.out.2.2.1⟩
              · have hgt : M' < 64 * N := by have := HMK'.out; have := HKN'.out; omega
                have hstop := HS'.out.2.1.stopAt (by rw [HK'.out]; have := HKN'.out; omega)
                rw [HK'.out, ← HMK'.out] at hstop
                obtain ⟨AY', cy', hv', _, _, hcell'⟩ := own_cells HO11.out
                injection hv' with hv1 _ hv3
                subst hv1 hv3
                obtain ⟨gY, rfl, hgY, hcY⟩ := hcell' (M' + 63) (.int .u8 0) (by rw [u8s_get, hstop]; rfl)
                have hcY2 : w12.cell? ⟨gY, M' + 63, none⟩ = some (.int .u8 0) := (HOF.out.cell (p := ⟨gY, M' + 63, none⟩) hgY (by simp)).trans hcY
                have hixY : ∀ w', (Instr.indexAt 26 (.slice (some ⟨gY, 0, none⟩) (64 * N) cy) (.int .i64 ((M' : Int) + 63))).run Try.prog w' = .ok (.pointer (some ⟨gY, M' + 63, none⟩)) w' := fun w' => by
                  have h := ix_sl0 (P := Try.prog) (b := gY) (off := 0) (n := 64 * N) (c := cy) (j := M' + 63) Try.underlying26 Dk.sizeU8 (by have := HMK'.out; have := HKN'.out; omega) w'
                  rw [Nat.zero_add, show ((M' + 63 : Nat) : Int) = (M' : Int) + 63 by omega] at h
                  exact h
                obtain ⟨NN, hNN⟩ : ∃ NN, 64 * N = NN := ⟨_, rfl⟩
                rw [hNN] at hgt hixY ⊢
                clear hstop hcY hgY hcell'
                go_wp2_with go_big_skip
                go_roundg (30 - (j + 1))
                case measure => omega
                case rel => exact ⟨j + 1, s', T', lv7, D2, base, aB, bc, by omega, by omega, rfl, by go_num, rfl, ⟨HL12.out, HA12.out, HD9.out, HN9.out, HS'.out.2.1, HS'.out.1⟩, HTJ.out, HS'.out.2.2.2, HS'.out.2.2.1⟩
        · have hI : (j : Int) < (n : Int) ∧ (30 : Int) ≤ (j : Int) := by omega
          go_wp2_with go_big_skip
          go_ret
          exact ⟨rfl, HI.out.log.fr⟩
      · have hI : (n : Int) ≤ (j : Int) := by omega
        go_wp2_with go_big_skip
        go_ret
        exact ⟨rfl, HI.out.log.fr⟩
end Go.Proofs.Ytmmjihkcofgmmaa

/- WalWrites: for every byte and every list of steps the law returns true, and the arguments read behind the call as before; no condition. -/
namespace Go.Proofs.Ytmmjihkcofgmmaa.walWrites
open Go.ChangeShapes Go.WideShapes Go.ChangeAt Go.RowKit
open Go.ChangeMaps (open_string shut_string)
set_option linter.unusedVariables false

theorem own : ownKnob Try.prog.godebug = none := by kernel_rfl
theorem laidOut : laidOutB Try.prog = true := by kernel_rfl


set_option maxRecDepth 100000 in
theorem opened {H : Type} {enc : TypeId × Value → H} (W : World) (base : Nat) (v0 v1 : Value) (d0 d1 : DataW H) (p0 p1 : List MemPlace)
    (vl0 : Value.okWide Try.prog W .any base 5 v0) (h0 : DataW.Trod enc Try.prog W 0 (fun _ => true) true 5 v0 d0 p0)
    (vl1 : Value.okWide Try.prog W .any base 45 v1) (h1 : DataW.Trod enc Try.prog W 0 (fun _ => true) true 45 v1 d1 p1) :
    Calls Try.prog 6 #[v0, v1] W fun e W' => e = .returned (.bool true) ∧ Below W.heap.size W W' := by
  obtain ⟨a, rfl, rfl, rfl, wa⟩ := open_int Try.underlying5 vl0 h0
  obtain ⟨y, rfl⟩ := byte_n wa
  obtain ⟨A, ca, l, rfl, hl, hA, _⟩ := open_steps vl1 h1
  exact (writes_walk08 W y A _ ca l rfl hA hl).mono fun e W' ⟨he, hf⟩ => ⟨he, hf.below (Nat.le_refl _) (by simp)⟩

set_option maxRecDepth 100000 in
theorem lifted (os : Os) (started : os.Started) (H : Type) (enc : TypeId × Value → H) :
    ReturnsInHanded {} Try.checked os 6 .any (Rows.walWritesSpec.pre6 enc Try.prog Try.f6 Rows.walWritesRow.domain false) (Rows.walWritesSpec.post enc Try.prog Try.f6 false true false false) := by
  refine returnsInHanded_of_change (C := Try.checked) own started (by kernel_rfl) Try.func6
    (ChangeSpec.witness6 (enc := enc) (C := Try.checked) false ⟨#[], #[.int .u8 0, .slice none 0 0], []⟩ 8 (by kernel_rfl) (by kernel_rfl) (by kernel_rfl) (by kernel_rfl)) ?_
  intro W base args ds gs before hval0 hW hcnd _
  have hval : ∀ (j : Nat) t v, Try.f6.params[j]? = some t → args[j]? = some v → Value.okWide Try.prog W .any base t v := hval0
  have hW' := hW
  obtain ⟨p, q, hA0, hV, rfl, hfz, hnd⟩ := hW
  have hA : DataW.TrodAll enc Try.prog W 0 (fun _ => true) true Try.f6.params.toList args.toList ds p := hA0
  rw [Try.params6] at hA hval
  obtain ⟨v0, vs0, d0, ds0, p0, q0, hargs, rfl, rfl, h0, r0⟩ := trodAll_cons hA
  obtain ⟨v1, vs1, d1, ds1, p1, q1, rfl, rfl, rfl, h1, r1⟩ := trodAll_cons r0
  obtain ⟨rfl, rfl, rfl⟩ := trodAll_nil r1
  obtain rfl : args = #[v0, v1] := by cases args; simp_all
  obtain ⟨rfl, rfl⟩ := trodVars_none hV
  have lt0 : ∀ x ∈ p0, x.block < W.heap.size := by obtain ⟨m, hm⟩ := h0; exact DataW.trod_lt m _ _ _ hm
  have lt1 : ∀ x ∈ p1, x.block < W.heap.size := by obtain ⟨m, hm⟩ := h1; exact DataW.trod_lt m _ _ _ hm
  refine (opened W base v0 v1 d0 d1 p0 p1 (hval 0 5 v0 rfl rfl) h0 (hval 1 45 v1 rfl rfl) h1).mono fun e W' ⟨he, bel⟩ => ?_
  subst he
  exact ⟨_, rfl, _, _, _, [], _, [], hW', trodAll_mk1 (shut_bool Try.underlying4 _), (trodAll_cons_mk (Below.trod laidOut (by kernel_rfl) (of_decide_eq_true (by kernel_rfl)) h0 bel lt0) (trodAll_cons_mk (Below.trod laidOut (by kernel_rfl) (of_decide_eq_true (by kernel_rfl)) h1 bel lt1) trodAll_mk0)), rfl, bel.frame _, fun h => by cases h⟩

theorem over : Rows.walWritesRow.holds Try.pinned (OpenSpec.ofChange Rows.walWritesSpec) :=
  OpenClaim.holds_of_wide 6 Try.f6 rfl rfl rfl rfl rfl rfl rfl ⟨rfl, rfl, rfl, rfl, rfl⟩ rfl rfl rfl rfl rfl (by kernel_rfl) Try.func6 (by kernel_rfl)
    (of_decide_eq_true (by kernel_rfl)) (by unfold Func.isWrapper; first | (rw [if_pos (by decide +kernel)]; kernel_rfl) | (rw [if_neg (by decide +kernel)]; exact ⟨rfl, rfl⟩))
    (fun os started H enc _ => lifted os started H enc)

/-- THE STATEMENT. -/
theorem proved : Rows.WalWritesSaid := over
#print axioms proved
end Go.Proofs.Ytmmjihkcofgmmaa.walWrites
