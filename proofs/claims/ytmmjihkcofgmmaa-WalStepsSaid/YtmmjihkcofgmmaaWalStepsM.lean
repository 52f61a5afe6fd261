/- WalSteps: for every byte, every list of steps and every text the law returns true, and the arguments read behind the call as before; no condition. -/
import Derived.Test.YtmmjihkcofgmmaaGl
import Derived.Test.YtmmjihkcofgmmaaRows
import Derived.WalkKit
import Derived.ProofKit
import Derived.OpenShut
import Derived.ShutString
import Derived.ChangeOld
import Derived.Below

/- The walk of WalSteps. -/
namespace Go.Proofs.Ytmmjihkcofgmmaa
open Go.RowKit
set_option linter.unusedVariables false

set_option maxHeartbeats 4000000 in
set_option maxRecDepth 100000 in
theorem steps_walk (w : World) (y : UInt8) (A : Option Addr) (n c : Nat) (l : List St) (hn : l.length = n) (hL : StIn w A l) (hmax : n ≤ maxLen) (B : Option Addr) (m d : Nat) (b : List UInt8) (hm : b.length = m) (hmd : m ≤ d) (hB : Rd w B b) (hmm : m ≤ maxLen) :
    Calls Try.prog 5 #[.int .u8 (y.toNat : Int), .slice A n c, .slice B m d] w (Agg (.bool true) w) := by
  have HAL := Lib.hid (alive08 w)
  have HGR := Lib.hid (fun W (f : Fr [] w W) => great_calls W A n c l hn (hL.fr f) hmax)
  unfold maxLen at hmax hmm
  have hnI : (0 : Int) ≤ (n : Int) ∧ (0 : Int) ≤ (m : Int) := by omega
  by_cases hg : greatB l = true
  · rw [hg] at HGR
    clear hn hL hmax hm hmd hB hmm
    go_enter Try.func5, Try.ntmps5
    go_wp2_with (first
      | go_big_skip
      | (go_at_call 8; (with_reducible refine HAL.out.mono ?_); rintro e w2 ⟨rfl, f2⟩; have F2 := Lib.hid f2; clear f2)
      | (go_at_call 20; (with_reducible refine (HGR.out _ F2.out).mono ?_); rintro e w3 ⟨rfl, f3⟩; have F3 := Lib.hid (F2.out.trans f3); clear f3))
    go_ret
    exact ⟨rfl, F3.out⟩
  · have hgf : greatB l = false := by simpa using hg
    rw [hgf] at HGR
    by_cases hbig : 1000 < m
    · have hbI : (1000 : Int) < (m : Int) := by omega
      clear hn hL hmax hm hmd hB hmm hg hgf hbig
      go_enter Try.func5, Try.ntmps5
      go_wp2_with (first
        | go_big_skip
        | (go_at_call 8; (with_reducible refine HAL.out.mono ?_); rintro e w2 ⟨rfl, f2⟩; have F2 := Lib.hid f2; clear f2)
        | (go_at_call 20; (with_reducible refine (HGR.out _ F2.out).mono ?_); rintro e w3 ⟨rfl, f3⟩; have F3 := Lib.hid (F2.out.trans f3); clear f3))
      go_ret
      exact ⟨rfl, F3.out⟩
    · have hbI : (m : Int) ≤ 1000 := by omega
      have hy := y.toNat_lt
      obtain ⟨N, hN⟩ : ∃ N, y.toNat % 80 + 1 = N := ⟨_, rfl⟩
      have hN80 : N ≤ 80 := by omega
      have HN := Lib.hid hN
      have HL := Lib.hid hL; have HLN := Lib.hid hn; have HG := Lib.hid hgf; have HBB := Lib.hid hB; have HM := Lib.hid hm; have HMD := Lib.hid hmd
      have HNEED := Lib.hid (show 1 ≤ needN m ∧ needN m ≤ 100 by rw [needN_le m (by omega)]; omega)
      have hNI : (0 : Int) ≤ (N : Int) ∧ (N : Int) ≤ 80 := by omega
      have hyI : (0 : Int) ≤ (y.toNat : Int) ∧ (y.toNat : Int) < 256 := by omega
      clear hn hL hmax hm hmd hB hmm hg hgf hbig hN
      go_enter Try.func5, Try.ntmps5
      go_upto_block 0 with (first
        | go_big_skip
        | (go_at_call 8; (with_reducible refine HAL.out.mono ?_); rintro e w2 ⟨rfl, f2⟩; have F2 := Lib.hid f2; clear f2)
        | (go_at_call 20; (with_reducible refine (HGR.out _ F2.out).mono ?_); rintro e w3 ⟨rfl, f3⟩; have F3 := Lib.hid (F2.out.trans f3); clear f3)
        | (go_at_call 12; (with_reducible refine (newd_calls _ _ N (by have := HN.out; omega) (by omega)).mono ?_); rintro e w4 ⟨p, g, rfl, hp, hgg, hd4, f4⟩; have HP := Lib.hid (And.intro (Nat.le_trans F3.out.size hp) (Nat.le_trans F3.out.size hgg)); have HO4 := Lib.hid (openl_calls w w4 p g N N _ [] hd4 rfl (Good.new N) (F3.out.trans f4) HP.out.1 HP.out.2 [] (by simp)); clear hp hgg hd4 f4)
        | (go_at_call 14; (with_reducible refine HO4.out.mono ?_); rintro e w5 ⟨x, lv, rfl, _, hl5, _⟩; have HL5 := Lib.hid hl5; clear hl5))
      go_cut [11] (fun v wc => ∃ s T lv', LS w wc x p g N N s lv' T false [x, p, g] w4.heap.size ∧ Good N s.bs T ∧ s.dead = false ∧ s.fuse = -1 ∧ s.torn ≤ 64 ∧ s.writes ≤ 4000)
      case first =>
        go_wp2_with fail
        go_loopg [11] 20 (fun gg u wr => ∃ (j : Nat) (s : Dk.DS) (T : List (List UInt8)) (lv' : Value), j ≤ n ∧ j ≤ 20 ∧ gg = 20 - j ∧ u = .int .i64 (j : Int) ∧ LS w wr x p g N N s lv' T false [x, p, g] w4.heap.size ∧ Good N s.bs T ∧ s.dead = false ∧ s.fuse = -1 ∧ s.torn ≤ 64 ∧ s.writes ≤ 100 * j)
        case atStart => exact ⟨0, _, _, _, by omega, by omega, by omega, rfl, HL5.out, Good.new N, rfl, rfl, Nat.zero_le _, Nat.zero_le _⟩
        case round =>
          obtain ⟨j, s, T, lv', hj, hj20, rfl, rfl, hS, hG, hd, hf, ht, hw⟩ := hrel
          have HS := Lib.hid hS; have HGD := Lib.hid hG; have HD := Lib.hid hd; have HF := Lib.hid hf; have HT := Lib.hid ht; have HW := Lib.hid hw
          clear hS hG hd hf ht hw
          have hjI : (0 : Int) ≤ (j : Int) := by omega
          by_cases hlt : j < n
          · by_cases h20 : j < 20
            · obtain ⟨st, hst⟩ : ∃ st, l[j]? = some st := ⟨l[j]'(by have := HLN.out; omega), by simp⟩
              obtain ⟨bA, oA, A', c', hA, hc0, hcap, hrd, _, _, _⟩ := HL.out.at HS.out.fr hst
              subst hA
              have hst1 := great_small HG.out hst (by omega)
              obtain ⟨k1, hk1⟩ : ∃ k1, st.B.length = k1 := ⟨_, rfl⟩
              have hng : needN st.B.length ≤ 50 := by rw [needN_le _ (by omega)]; omega
              obtain ⟨er, s', T', hR, hd', hG', hf', ht', _, hw', _⟩ := appR_any (b := st.B) HGD.out HD.out HT.out (.inl HF.out) (by omega)
              have HAP := Lib.hid (HS.out.append A' k1 c' st.B hk1 (by omega) (by omega) (HS.out.arg hrd).1 (HS.out.arg hrd).2 (by have := HW.out; omega) _ hR)
              have HA2 := Lib.hid (And.intro hd' (And.intro hG' (And.intro (hf' HF.out) (And.intro (show s'.torn ≤ 64 by rw [ht']; exact HT.out) (show s'.writes ≤ 100 * (j + 1) by have := HW.out; omega)))))
              rw [hk1] at hc0
              have hix := fun w' => run_index_slice' (P := Try.prog) (t := 45) (size := 4) w' Try.underlying45 size_step (A := some ⟨bA, oA, none⟩) (n := n) (c := c) (j := j) rfl hlt
              have hltI : (j : Int) < (n : Int) ∧ (j : Int) < 20 := by omega
              clear hst hst1 hcap hrd hng hR hd' hG' hf' ht' hw' hk1
              go_wp2_with (go_at_call 21; (with_reducible refine HAP.out.mono ?_); rintro e w6 ⟨lv6, rfl, hl6, _, _⟩; have HL6 := Lib.hid (show LS w w6 x p g N N s' lv6 T' false [x, p, g] w4.heap.size from hl6); clear hl6)
              go_roundg (20 - (j + 1))
              case measure => omega
              case rel => exact ⟨j + 1, s', T', lv6, by omega, by omega, rfl, by go_num, HL6.out, HA2.out.2.1, HA2.out.1, HA2.out.2.2.1, HA2.out.2.2.2.1, HA2.out.2.2.2.2⟩
            · have hI : (j : Int) < (n : Int) ∧ (20 : Int) ≤ (j : Int) := by omega
              go_wp2_with go_big_skip
              go_meet
              exact ⟨s, T, lv', HS.out, HGD.out, HD.out, HF.out, HT.out, by have := HW.out; omega⟩
          · have hI : (n : Int) ≤ (j : Int) := by omega
            go_wp2_with go_big_skip
            go_meet
            exact ⟨s, T, lv', HS.out, HGD.out, HD.out, HF.out, HT.out, by have := HW.out; omega⟩
      case rest =>
        obtain ⟨s, T, lv', hS, hG, hd, hf, ht, hw⟩ := hcut
        have HS := Lib.hid hS; have HGD := Lib.hid hG; have HD := Lib.hid hd; have HF := Lib.hid hf; have HT := Lib.hid ht; have HW := Lib.hid hw
        obtain ⟨K, hK⟩ : ∃ K, needN m = K := ⟨_, rfl⟩
        have hKb := HNEED.out
        rw [hK] at hKb
        have HND := Lib.hid (fun W => (hK ▸ need_nat W m (by omega) : Calls Try.prog 9 #[.int .i64 (m : Int)] W (Same (.int .i64 (K : Int)) W)))
        have hKI : (1 : Int) ≤ (K : Int) ∧ (K : Int) ≤ 100 := by omega
        obtain ⟨s8, hs8⟩ : ∃ s8 : Dk.DS, { s with fuse := max ((K : Int) + 1) (-1), torn := (min (max (0 : Int) 0) 64).toNat } = s8 := ⟨_, rfl⟩
        have e1 : s8.bs = s.bs := by rw [← hs8]
        have e2 : s8.dead = false := by rw [← hs8]; exact hd
        have e3 : s8.torn ≤ 64 := by rw [← hs8]; exact Nat.zero_le _
        have e4 : s8.fuse = (K : Int) + 1 := by rw [← hs8]; show max ((K : Int) + 1) (-1) = (K : Int) + 1; omega
        have e5 : s8.writes = s.writes := by rw [← hs8]
        have HFU := Lib.hid (fun W (h : LS w W x p g N N s lv' T false [x, p, g] w4.heap.size) => (hs8 ▸ Dk.fuse_calls W p g N N s h.log.disk ((K : Int) + 1) 0 (by omega)))
        obtain ⟨er, s9, T9, hR, _, _, _, _, hw91, hw92, hcase⟩ := appR_any (b := b) (T := T) (n := N) (s := s8) (by rw [e1]; exact hG) e2 e3 (.inr (by rw [HM.out, hK, e4]; exact Int.le_refl _)) (by have := HM.out; omega)
        rw [HM.out, hK] at hcase hw92
        have HAP := Lib.hid (fun W (h : LS w W x p g N N s8 lv' T false [x, p, g] w4.heap.size) => h.append B m d b HM.out (by omega) HMD.out (h.arg HBB.out).1 (h.arg HBB.out).2 (by rw [e5]; omega) _ hR)
        have hwI : (s9.writes : Int) - (s.writes : Int) ≤ (K : Int) + 1 ∧ (0 : Int) ≤ (s.writes : Int) ∧ (s.writes : Int) ≤ (s9.writes : Int) ∧ (s.writes : Int) ≤ 4000 := by omega
        have hkt := hS.log.hk
        have HF9 := Lib.hid (fun W (h : LS w W x p g N N s9 lv' T9 false [x, p, g] w4.heap.size) => h.fr)
        clear hS hG hd hf ht hw hs8 e1 e2 e3 e4 hR hw91 hw92 hK HNEED
        rcases hcase with ⟨hfull, rfl, hs9, hT9⟩ | ⟨hroom, rfl, hT9⟩
        · have hfI : (N : Int) - (kT T : Int) < (K : Int) := by omega
          have hdec : decide ((K : Int) ≤ (N : Int) - (kT T : Int)) = false := decide_eq_false (by omega)
          have hws : s9.writes = s.writes := by rw [hs9, e5]
          have hwe : ((s9.writes : Int) == (s.writes : Int)) = true := by rw [hws]; exact beq_self_eq_true _
          clear hs9 hT9 hfull
          go_wp2_with (first
            | go_big_skip
            | (go_at_call 22; (with_reducible refine (Dk.writes_calls _ p g N N s HS.out.log.disk).mono ?_); rintro e w' ⟨rfl, rfl⟩)
            | (go_at_call 9; (with_reducible refine (HND.out _).mono ?_); rintro e w' ⟨rfl, rfl⟩)
            | (go_at_call 23; (with_reducible refine (logfree_calls _ x p g N N s lv' T _ _ _ _ HS.out.log).mono ?_); rintro e w7 ⟨rfl, f7⟩; have HS7 := Lib.hid (HS.out.to f7); clear f7)
            | (go_at_call 24; (with_reducible refine (HFU.out _ HS7.out).mono ?_); rintro e w8 ⟨rfl, hd8, f8⟩; have HS8 := Lib.hid (HS7.out.onDisk hd8 f8); clear hd8 f8)
            | (go_at_call 21; (with_reducible refine (HAP.out _ HS8.out).mono ?_); rintro e w9 ⟨lv9, rfl, hl9, _, _⟩; have HF10 := Lib.hid (show Fr [] w w9 from hl9.fr); have HD9 := Lib.hid (show Dk.IsDisk w9 p g N N s9 from hl9.log.disk); clear hl9)
            | (go_at_call 22; (with_reducible refine (Dk.writes_calls _ p g N N s9 HD9.out).mono ?_); rintro e w' ⟨rfl, rfl⟩)
            | (go_at_call 14; (with_reducible refine (open_nil _).mono ?_); rintro e w' ⟨rfl, rfl⟩))
          go_ret
          exact ⟨rfl, HF10.out⟩
        · have hfI : (K : Int) ≤ (N : Int) - (kT T : Int) := by omega
          have hdec : decide ((K : Int) ≤ (N : Int) - (kT T : Int)) = true := decide_eq_true (by omega)
          clear hT9 hroom
          go_wp2_with (first
            | go_big_skip
            | (go_at_call 22; (with_reducible refine (Dk.writes_calls _ p g N N s HS.out.log.disk).mono ?_); rintro e w' ⟨rfl, rfl⟩)
            | (go_at_call 9; (with_reducible refine (HND.out _).mono ?_); rintro e w' ⟨rfl, rfl⟩)
            | (go_at_call 23; (with_reducible refine (logfree_calls _ x p g N N s lv' T _ _ _ _ HS.out.log).mono ?_); rintro e w7 ⟨rfl, f7⟩; have HS7 := Lib.hid (HS.out.to f7); clear f7)
            | (go_at_call 24; (with_reducible refine (HFU.out _ HS7.out).mono ?_); rintro e w8 ⟨rfl, hd8, f8⟩; have HS8 := Lib.hid (HS7.out.onDisk hd8 f8); clear hd8 f8)
            | (go_at_call 21; (with_reducible refine (HAP.out _ HS8.out).mono ?_); rintro e w9 ⟨lv9, rfl, hl9, _, _⟩; have HF10 := Lib.hid (show Fr [] w w9 from hl9.fr); have HD9 := Lib.hid (show Dk.IsDisk w9 p g N N s9 from hl9.log.disk); clear hl9)
            | (go_at_call 22; (with_reducible refine (Dk.writes_calls _ p g N N s9 HD9.out).mono ?_); rintro e w' ⟨rfl, rfl⟩)
            | (go_at_call 14; (with_reducible refine (open_nil _).mono ?_); rintro e w' ⟨rfl, rfl⟩))
          go_ret
          exact ⟨rfl, HF10.out⟩
end Go.Proofs.Ytmmjihkcofgmmaa

/- WalSteps: for every byte, every list of steps and every text the law returns true, and the arguments read behind the call as before; no condition. -/
namespace Go.Proofs.Ytmmjihkcofgmmaa.walSteps
open Go.ChangeShapes Go.WideShapes Go.ChangeAt Go.RowKit
open Go.ChangeMaps (open_string shut_string)
set_option linter.unusedVariables false

theorem own : ownKnob Try.prog.godebug = none := by kernel_rfl
theorem laidOut : laidOutB Try.prog = true := by kernel_rfl


set_option maxRecDepth 100000 in
theorem opened {H : Type} {enc : TypeId × Value → H} (W : World) (base : Nat) (v0 v1 v2 : Value) (d0 d1 d2 : DataW H) (p0 p1 p2 : List MemPlace)
    (vl0 : Value.okWide Try.prog W .any base 5 v0) (h0 : DataW.Trod enc Try.prog W 0 (fun _ => true) true 5 v0 d0 p0)
    (vl1 : Value.okWide Try.prog W .any base 45 v1) (h1 : DataW.Trod enc Try.prog W 0 (fun _ => true) true 45 v1 d1 p1)
    (vl2 : Value.okWide Try.prog W .any base 26 v2) (h2 : DataW.Trod enc Try.prog W 0 (fun _ => true) true 26 v2 d2 p2) :
    Calls Try.prog 5 #[v0, v1, v2] W fun e W' => e = .returned (.bool true) ∧ Below W.heap.size W W' := by
  obtain ⟨a, rfl, rfl, rfl, wa⟩ := open_int Try.underlying5 vl0 h0
  obtain ⟨y, rfl⟩ := byte_n wa
  obtain ⟨A, ca, l, rfl, hl, hA, _⟩ := open_steps vl1 h1
  obtain ⟨B, b, d, rfl, hbd, hdm, hB⟩ := open_bytesV Try.underlying26 Try.underlying5 (by kernel_rfl) vl2 h2
  exact (steps_walk W y A _ ca l rfl hA hl B _ d b rfl hbd hB (by omega)).mono fun e W' ⟨he, hf⟩ => ⟨he, hf.below (Nat.le_refl _) (by simp)⟩

set_option maxRecDepth 100000 in
theorem lifted (os : Os) (started : os.Started) (H : Type) (enc : TypeId × Value → H) :
    ReturnsInHanded {} Try.checked os 5 .any (Rows.walStepsSpec.pre6 enc Try.prog Try.f5 Rows.walStepsRow.domain false) (Rows.walStepsSpec.post enc Try.prog Try.f5 false true false false) := by
  refine returnsInHanded_of_change (C := Try.checked) own started (by kernel_rfl) Try.func5
    (ChangeSpec.witness6 (enc := enc) (C := Try.checked) false ⟨#[], #[.int .u8 0, .slice none 0 0, .slice none 0 0], []⟩ 8 (by kernel_rfl) (by kernel_rfl) (by kernel_rfl) (by kernel_rfl)) ?_
  intro W base args ds gs before hval0 hW hcnd _
  have hval : ∀ (j : Nat) t v, Try.f5.params[j]? = some t → args[j]? = some v → Value.okWide Try.prog W .any base t v := hval0
  have hW' := hW
  obtain ⟨p, q, hA0, hV, rfl, hfz, hnd⟩ := hW
  have hA : DataW.TrodAll enc Try.prog W 0 (fun _ => true) true Try.f5.params.toList args.toList ds p := hA0
  rw [Try.params5] at hA hval
  obtain ⟨v0, vs0, d0, ds0, p0, q0, hargs, rfl, rfl, h0, r0⟩ := trodAll_cons hA
  obtain ⟨v1, vs1, d1, ds1, p1, q1, rfl, rfl, rfl, h1, r1⟩ := trodAll_cons r0
  obtain ⟨v2, vs2, d2, ds2, p2, q2, rfl, rfl, rfl, h2, r2⟩ := trodAll_cons r1
  obtain ⟨rfl, rfl, rfl⟩ := trodAll_nil r2
  obtain rfl : args = #[v0, v1, v2] := by cases args; simp_all
  obtain ⟨rfl, rfl⟩ := trodVars_none hV
  have lt0 : ∀ x ∈ p0, x.block < W.heap.size := by obtain ⟨m, hm⟩ := h0; exact DataW.trod_lt m _ _ _ hm
  have lt1 : ∀ x ∈ p1, x.block < W.heap.size := by obtain ⟨m, hm⟩ := h1; exact DataW.trod_lt m _ _ _ hm
  have lt2 : ∀ x ∈ p2, x.block < W.heap.size := by obtain ⟨m, hm⟩ := h2; exact DataW.trod_lt m _ _ _ hm
  refine (opened W base v0 v1 v2 d0 d1 d2 p0 p1 p2 (hval 0 5 v0 rfl rfl) h0 (hval 1 45 v1 rfl rfl) h1 (hval 2 26 v2 rfl rfl) h2).mono fun e W' ⟨he, bel⟩ => ?_
  subst he
  exact ⟨_, rfl, _, _, _, [], _, [], hW', trodAll_mk1 (shut_bool Try.underlying4 _), (trodAll_cons_mk (Below.trod laidOut (by kernel_rfl) (of_decide_eq_true (by kernel_rfl)) h0 bel lt0) (trodAll_cons_mk (Below.trod laidOut (by kernel_rfl) (of_decide_eq_true (by kernel_rfl)) h1 bel lt1) (trodAll_cons_mk (Below.trod laidOut (by kernel_rfl) (of_decide_eq_true (by kernel_rfl)) h2 bel lt2) trodAll_mk0))), rfl, bel.frame _, fun h => by cases h⟩

theorem over : Rows.walStepsRow.holds Try.pinned (OpenSpec.ofChange Rows.walStepsSpec) :=
  OpenClaim.holds_of_wide 5 Try.f5 rfl rfl rfl rfl rfl rfl rfl ⟨rfl, rfl, rfl, rfl, rfl⟩ rfl rfl rfl rfl rfl (by kernel_rfl) Try.func5 (by kernel_rfl)
    (of_decide_eq_true (by kernel_rfl)) (by unfold Func.isWrapper; first | (rw [if_pos (by decide +kernel)]; kernel_rfl) | (rw [if_neg (by decide +kernel)]; exact ⟨rfl, rfl⟩))
    (fun os started H enc _ => lifted os started H enc)

/-- THE STATEMENT. -/
theorem proved : Rows.WalStepsSaid := over
#print axioms proved
end Go.Proofs.Ytmmjihkcofgmmaa.walSteps
