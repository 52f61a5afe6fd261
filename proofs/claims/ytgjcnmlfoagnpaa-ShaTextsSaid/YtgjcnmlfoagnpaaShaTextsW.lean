/- The walk of ShaTexts. -/
import Derived.Test.YtgjcnmlfoagnpaaShaClashW
import Derived.Test.YtgjcnmlfoagnpaaRefC
namespace Go.Proofs.Ytgjcnmlfoagnpaa
open Go.RowKit
set_option linter.unusedVariables false

theorem ex_eql_str {P : Program} {a : Act} {o : Oper} {w : World} {x y : Operand} {t yt : TypeId} {la lb : List UInt8} {v : Bool} (ho : o.op = .binOp .eql t x y yt) (h1 : a.eval x = .string (str la)) (h2 : a.eval y = .string (str lb)) (hv : (la == lb) = v) :
    (execOp a.eval o).run P w = .ok (.value (.bool v)) w := by
  unfold execOp
  simp [ho, h1, h2, eqGuard, binOp, Op.stringOp, str_toList, hv]
theorem eightB_inj {n m : Nat} (hn : n ≤ 100) (hm : m ≤ 100) (h : eightB n = eightB m) : n = m := by
  have h7 : (eightB n)[7]? = (eightB m)[7]? := by rw [h]
  simp only [eightB, List.getElem?_map, List.getElem?_range (show 7 < 8 by omega), Option.map_some, Option.some.injEq, Nat.sub_self, Nat.pow_zero, Nat.div_one] at h7
  have := congrArg UInt8.toNat h7
  rw [UInt8.toNat_ofNat', UInt8.toNat_ofNat'] at this
  omega
theorem flat_inj : ∀ (l m : List (List UInt8)), (∀ x ∈ l, x.length ≤ 100) → (∀ x ∈ m, x.length ≤ 100) → l.flatMap (fun t => eightB t.length ++ t) = m.flatMap (fun t => eightB t.length ++ t) → l = m
  | [], [], _, _, _ => rfl
  | [], y :: m, _, _, h => by
    have := congrArg List.length h
    simp [eightB_length] at this <;> omega
  | x :: l, [], _, _, h => by
    have := congrArg List.length h
    simp [eightB_length] at this <;> omega
  | x :: l, y :: m, hl, hm, h => by
    rw [List.flatMap_cons, List.flatMap_cons, List.append_assoc, List.append_assoc] at h
    obtain ⟨h1, h2⟩ := List.append_inj h (by rw [eightB_length, eightB_length])
    have e := eightB_inj (hl x (by simp)) (hm y (by simp)) h1
    obtain ⟨h3, h4⟩ := List.append_inj h2 e
    subst h3
    rw [flat_inj l m (fun z hz => hl z (by simp [hz])) (fun z hz => hm z (by simp [hz])) h4]
theorem preB_inj {a b : UInt8} {l m : List (List UInt8)} (hl : ∀ x ∈ l, x.length ≤ 100) (hm : ∀ x ∈ m, x.length ≤ 100) : preB a l = preB b m ↔ a = b ∧ l = m := by
  constructor
  · intro h
    unfold preB at h
    injection h with h1 h2
    exact ⟨h1, flat_inj l m hl hm h2⟩
  · rintro ⟨rfl, rfl⟩; rfl
theorem preB_small {tag : UInt8} {l : List (List UInt8)} (hn : l.length ≤ 20) (hl : ∀ x ∈ l, x.length ≤ 100) : (preB tag l).length ≤ 3000 := by
  have key : ∀ (l : List (List UInt8)), (∀ x ∈ l, x.length ≤ 100) → (l.flatMap (fun t => eightB t.length ++ t)).length ≤ 108 * l.length := by
    intro l
    induction l with
    | nil => intro _; simp
    | cons x l ih =>
      intro h
      have h1 := ih (fun z hz => h z (by simp [hz]))
      have h2 := h x (by simp)
      rw [List.flatMap_cons, List.length_append, List.length_append, eightB_length, List.length_cons]
      omega
  have := key l hl
  unfold preB
  rw [List.length_cons]
  omega
theorem u8_eq (a b : UInt8) : ((a.toNat : Int) == (b.toNat : Int)) = (a == b) := by
  rw [Bool.eq_iff_iff, beq_iff_eq, beq_iff_eq]
  constructor
  · intro h
    exact UInt8.toNat_inj.1 (by omega)
  · rintro rfl; rfl
set_option maxHeartbeats 8000000 in
set_option maxRecDepth 100000 in
theorem texts_walk (w : World) (ta tb : UInt8) (LA MA : Option Addr) (n m c d : Nat) (ls ms : List (List UInt8)) (hn : ls.length = n) (hm : ms.length = m) (hL : TxIn w LA ls) (hM : TxIn w MA ms) (hnm : n ≤ maxLen) (hmm : m ≤ maxLen)
    (hlx : ∀ (i : Nat) (x : List UInt8), ls[i]? = some x → x.length ≤ maxLen) (hmx : ∀ (i : Nat) (x : List UInt8), ms[i]? = some x → x.length ≤ maxLen) :
    Calls Try.prog 5 #[.int .u8 (ta.toNat : Int), .int .u8 (tb.toNat : Int), .slice LA n c, .slice MA m d] w (QuietS (.bool true) w) := by
  unfold maxLen at hnm hmm
  have HAL := Lib.hid (alive_calls w)
  have HL := Lib.hid hL; have HM := Lib.hid hM; have HN := Lib.hid hn; have HMN := Lib.hid hm; have HLX := Lib.hid hlx; have HMX := Lib.hid hmx
  clear hL hM hn hm hlx hmx
  by_cases h1 : 20 < n
  · have hI : (20 : Int) < (n : Int) := by omega
    go_enter Try.func5, Try.ntmps5
    go_wp2_with (go_at_call 8; (with_reducible refine HAL.out.mono ?_); rintro e w1 ⟨rfl, f1⟩; have F1 := Lib.hid f1; clear f1)
    go_ret
    exact ⟨rfl, F1.out⟩
  by_cases h2 : 20 < m
  · have hI : (20 : Int) < (m : Int) := by omega
    have hI1 : (n : Int) ≤ 20 := by omega
    go_enter Try.func5, Try.ntmps5
    go_wp2_with (go_at_call 8; (with_reducible refine HAL.out.mono ?_); rintro e w1 ⟨rfl, f1⟩; have F1 := Lib.hid f1; clear f1)
    go_ret
    exact ⟨rfl, F1.out⟩
  have hI1 : (n : Int) ≤ 20 := by omega
  have hI2 : (m : Int) ≤ 20 := by omega
  have h0 : (0 : Int) ≤ (n : Int) ∧ (0 : Int) ≤ (m : Int) := by omega
  obtain ⟨s0, hs0⟩ : ∃ s, ((ta == tb) && (n == m)) = s := ⟨_, rfl⟩
  have HS0 := Lib.hid hs0
  clear h1 h2 hnm hmm hs0
  go_enter Try.func5, Try.ntmps5
  go_upto_region 5 with (go_at_call 8; (with_reducible refine HAL.out.mono ?_); rintro e w1 ⟨rfl, f1⟩; have F1 := Lib.hid f1; clear f1)
  go_cut [9] (fun v wc => w1 = wc ∧ v = .bool s0)
  case first =>
    by_cases hab : ta = tb
    · have hI : ((ta.toNat : Int) == (tb.toNat : Int)) = true := by rw [u8_eq]; simpa using hab
      by_cases hnm : n = m
      · have hI3 : ((n : Int) == (m : Int)) = true := by rw [beq_iff_eq]; omega
        go_wp2_with fail
        go_meet
        exact ⟨rfl, by rw [← HS0.out]; simp [hab, hnm]⟩
      · have hI3 : ((n : Int) == (m : Int)) = false := by rw [beq_eq_false_iff_ne]; omega
        go_wp2_with fail
        go_meet
        exact ⟨rfl, by rw [← HS0.out]; simp [hab, hnm]⟩
    · have hI : ((ta.toNat : Int) == (tb.toNat : Int)) = false := by rw [u8_eq]; simpa using hab
      go_wp2_with fail
      go_meet
      exact ⟨rfl, by rw [← HS0.out]; simp [hab]⟩
  case rest =>
  obtain ⟨rfl, rfl⟩ := hcut
  go_wp2_with fail
  go_loopg [9, 10] n (fun gg v u wr => ∃ (i : Nat) (sb : Bool), i ≤ n ∧ gg = n - i ∧ u = .int .i64 i ∧ v = .bool sb ∧ (sb = true ↔ s0 = true ∧ ∀ j, j < i → ls[j]? = ms[j]?) ∧
    (∀ (j : Nat) (x : List UInt8), j < i → ls[j]? = some x → x.length ≤ 100) ∧ Fr [] w wr)
  case atStart => exact ⟨0, s0, by omega, by omega, rfl, rfl, by simp, (fun j x hj => by omega), F1.out⟩
  case round =>
    obtain ⟨i, sb, hi, rfl, rfl, rfl, hsb, hsm, hf⟩ := hrel
    have HF := Lib.hid hf; have HSB := Lib.hid hsb; have HSM := Lib.hid hsm
    clear hf hsb hsm
    by_cases hlt : i < n
    · obtain ⟨t, ht⟩ : ∃ t, ls[i]? = some t := ⟨ls[i]'(by have := HN.out; omega), by simp⟩
      obtain ⟨bL, oL, A, ct, hA, hbw, hc0, hr⟩ := (HL.out.fr HF.out) i t ht
      subst hA
      have hix := fun w' => ix_sl0 (P := Try.prog) (b := bL) (off := oL) (n := n) (c := c) Try.underlying28 size_sl hlt w'
      have htx := HLX.out i t ht
      unfold maxLen at htx
      obtain ⟨tn, htn⟩ : ∃ k, t.length = k := ⟨_, rfl⟩
      rw [htn] at hc0 htx
      have HT := Lib.hid ht; have HTN := Lib.hid htn; have HR := Lib.hid hr
      have hiI : (0 : Int) ≤ (i : Int) ∧ (i : Int) < (n : Int) := by omega
      have htI : (tn : Int) ≤ 9223372036854775807 := by omega
      clear ht htn hr hbw htx
      by_cases h100 : 100 < tn
      · have hI : (100 : Int) < (tn : Int) := by omega
        go_wp2_with fail
        go_ret
        exact ⟨rfl, HF.out⟩
      have hI : (tn : Int) ≤ 100 := by omega
      have HSM2 := Lib.hid (show ∀ (j : Nat) (x : List UInt8), j < i + 1 → ls[j]? = some x → x.length ≤ 100 from fun j x hj hx => by
        by_cases e : j = i
        · subst e
          have h1 := HT.out
          rw [hx] at h1
          cases h1
          have := HTN.out
          omega
        · exact HSM.out j x (by omega) hx)
      clear h100
      by_cases him : i < m
      · obtain ⟨u, hu⟩ : ∃ t, ms[i]? = some t := ⟨ms[i]'(by have := HMN.out; omega), by simp⟩
        obtain ⟨bM, oM, B, cu, hB, hbw, hd0, hru⟩ := (HM.out.fr HF.out) i u hu
        subst hB
        have hiy := fun w' => ix_sl0 (P := Try.prog) (b := bM) (off := oM) (n := m) (c := d) Try.underlying28 size_sl him w'
        have hux := HMX.out i u hu
        unfold maxLen at hux
        obtain ⟨un, hun⟩ : ∃ k, u.length = k := ⟨_, rfl⟩
        rw [hun] at hd0 hux
        have HU := Lib.hid hu; have HUN := Lib.hid hun; have HRU := Lib.hid hru
        have himI : (i : Int) < (m : Int) := by omega
        have huI : (un : Int) ≤ 9223372036854775807 := by omega
        clear hu hun hru hbw hux
        by_cases h100 : 100 < un
        · have hI' : (100 : Int) < (un : Int) := by omega
          go_wp2_with fail
          go_ret
          exact ⟨rfl, HF.out⟩
        have hI' : (un : Int) ≤ 100 := by omega
        clear h100
        go_upto_region 11 with fail
        cases sb with
        | false =>
          go_quiet (fail)
          go_wp2_with fail
          go_roundg (n - (i + 1))
          case measure => omega
          case rel =>
            refine ⟨i + 1, false, by omega, rfl, by go_num, rfl, ⟨fun h => (by cases h), fun h => ?_⟩, HSM2.out, HF.out.drewN _⟩
            have := HSB.out.2 ⟨h.1, fun j hj => h.2 j (by omega)⟩
            cases this
        | true =>
          have hcA := fun k => run_conv_str (P := Try.prog) (w := wr.drewN k) (src := 22) (dst := 9) Try.underlying22 Try.underlying5 Try.underlying9 (HR.out.drewN k) ct
          have hcB := fun k => run_conv_str (P := Try.prog) (w := wr.drewN k) (src := 22) (dst := 9) Try.underlying22 Try.underlying5 Try.underlying9 (HRU.out.drewN k) cu
          rw [HTN.out] at hcA; rw [HUN.out] at hcB
          have hst := str_toList
          obtain ⟨q, hq⟩ : ∃ q, (t == u) = q := ⟨_, rfl⟩
          have HQ := Lib.hid hq
          go_quiet (fail)
          clear hq hst hcA hcB
          go_wp2_with fail
          go_roundg (n - (i + 1))
          case measure => omega
          case rel =>
            refine ⟨i + 1, q, by omega, rfl, by go_num, rfl, ?_, HSM2.out, HF.out.drewN _⟩
            have h1 := HSB.out.1 (by trivial)
            have hq := HQ.out
            constructor
            · rintro rfl
              refine ⟨h1.1, fun j hj => ?_⟩
              by_cases e : j = i
              · subst e
                rw [HT.out, HU.out, beq_iff_eq.1 hq]
              · exact h1.2 j (by omega)
            · intro h
              have h2 := h.2 i (by omega)
              rw [HT.out, HU.out] at h2
              injection h2 with h2
              rw [← hq, h2]
              simp
      · have himI : (m : Int) ≤ (i : Int) := by omega
        have hsf : sb = false := by
          cases sb with
          | false => rfl
          | true =>
            have h1 := (HSB.out.1 rfl).1
            have h2 := HS0.out
            rw [h1] at h2
            simp at h2
            omega
        subst hsf
        go_upto_region 11 with fail
        go_quiet (fail)
        go_wp2_with fail
        go_roundg (n - (i + 1))
        case measure => omega
        case rel =>
          refine ⟨i + 1, false, by omega, rfl, by go_num, rfl, ⟨fun h => (by cases h), fun h => ?_⟩, HSM2.out, HF.out.drewN _⟩
          have := HSB.out.2 ⟨h.1, fun j hj => h.2 j (by omega)⟩
          cases this
    · obtain rfl : i = n := by omega
      go_wp2_with fail
      obtain ⟨wo, rfl⟩ : ∃ wo : World, wo = wr := ⟨_, rfl⟩
      go_loopg [11] m (fun gg u wr => ∃ i : Nat, i ≤ m ∧ gg = m - i ∧ u = .int .i64 i ∧ (∀ (j : Nat) (x : List UInt8), j < i → ms[j]? = some x → x.length ≤ 100) ∧ Fr [] w wr)
      case atStart => exact ⟨0, by omega, by omega, rfl, (fun j x hj => by omega), HF.out⟩
      case round =>
        obtain ⟨j, hj, rfl, rfl, hjm, hf⟩ := hrel
        have JF := Lib.hid hf; have JM := Lib.hid hjm
        clear hf hjm
        by_cases hlj : j < m
        · obtain ⟨u, hu⟩ : ∃ t, ms[j]? = some t := ⟨ms[j]'(by have := HMN.out; omega), by simp⟩
          obtain ⟨bM, oM, B, cu, hB, hbw, hd0, hru⟩ := (HM.out.fr JF.out) j u hu
          subst hB
          have hiy := fun w' => ix_sl0 (P := Try.prog) (b := bM) (off := oM) (n := m) (c := d) Try.underlying28 size_sl hlj w'
          have hux := HMX.out j u hu
          unfold maxLen at hux
          obtain ⟨un, hun⟩ : ∃ k, u.length = k := ⟨_, rfl⟩
          rw [hun] at hd0 hux
          have HU := Lib.hid hu; have HUN := Lib.hid hun
          have himI : (0 : Int) ≤ (j : Int) ∧ (j : Int) < (m : Int) := by omega
          have huI : (un : Int) ≤ 9223372036854775807 := by omega
          clear hu hun hru hbw hux
          by_cases h100 : 100 < un
          · have hI' : (100 : Int) < (un : Int) := by omega
            go_wp2_with fail
            go_ret
            exact ⟨rfl, JF.out⟩
          have hI' : (un : Int) ≤ 100 := by omega
          go_wp2_with fail
          go_roundg (m - (j + 1))
          case measure => omega
          case rel =>
            refine ⟨j + 1, by omega, rfl, by go_num, fun k x hk hx => ?_, JF.out⟩
            by_cases e : k = j
            · subst e
              have h1 := HU.out
              rw [hx] at h1
              cases h1
              have := HUN.out
              omega
            · exact JM.out k x (by omega) hx
        · obtain rfl : j = m := by omega
          have hls : ∀ x ∈ ls, x.length ≤ 100 := fun x hx => by
            obtain ⟨k, hk, rfl⟩ := List.getElem_of_mem hx
            exact HSM.out k _ (by have := HN.out; omega) (by simp)
          have hms : ∀ x ∈ ms, x.length ≤ 100 := fun x hx => by
            obtain ⟨k, hk, rfl⟩ := List.getElem_of_mem hx
            exact JM.out k _ (by have := HMN.out; omega) (by simp)
          have hp1 : (preB ta ls).length ≤ 3000 := preB_small (by rw [HN.out]; omega) hls
          have hp2 : (preB tb ms).length ≤ 3000 := preB_small (by rw [HMN.out]; omega) hms
          have hpq : (preB ta ls == preB tb ms) = sb := by
            rw [Bool.eq_iff_iff, beq_iff_eq, preB_inj hls hms, HSB.out, ← HS0.out]
            simp only [Bool.and_eq_true, beq_iff_eq]
            constructor
            · rintro ⟨h1, rfl⟩
              exact ⟨⟨h1, by rw [← HN.out, HMN.out]⟩, fun k _ => rfl⟩
            · rintro ⟨⟨h1, h2⟩, h3⟩
              refine ⟨h1, List.ext_getElem? fun k => ?_⟩
              by_cases hk : k < i
              · exact h3 k hk
              · rw [List.getElem?_eq_none (by rw [HN.out]; omega), List.getElem?_eq_none (by rw [HMN.out]; omega)]
          obtain ⟨P, hP⟩ : ∃ P, preB ta ls = P := ⟨_, rfl⟩
          obtain ⟨Q, hQ⟩ : ∃ Q, preB tb ms = Q := ⟨_, rfl⟩
          have hpa := pre_calls wr ta LA i c ls HN.out (HL.out.fr JF.out) (by omega) (by omega)
          have hpb := fun (w' : World) (h : Fr [] wr w') => pre_calls w' tb MA j d ms HMN.out (HM.out.fr (JF.out.trans h)) (by omega) (by omega)
          have hrp := fun (w' : World) (h : Fr [] wr w') => rpre_calls w' ta LA i c ls HN.out (HL.out.fr (JF.out.trans h)) (by omega) (by omega)
          have hhs := fun (w' : World) (h : Fr [] wr w') => hash_calls w' ta LA i c ls HN.out (HL.out.fr (JF.out.trans h)) (by omega) (by omega)
          rw [hP] at hpa hp1 hpq hrp hhs
          rw [hQ] at hpb hp2 hpq
          have HPA := Lib.hid hpa; have HPB := Lib.hid hpb; have HPQ := Lib.hid hpq; have HP1 := Lib.hid hp1; have HR1 := Lib.hid hrp; have HH1 := Lib.hid hhs
          clear hpa hpb hpq hp1 hp2 hls hms hrp hhs hP hQ
          go_wp2_with (first
            | (go_at_call 15; (with_reducible refine HPA.out.mono ?_); rintro e w2 ⟨PA, pc, rfl, ho2, hf2⟩; have HO2 := Lib.hid ho2; have HF2 := Lib.hid hf2; clear ho2 hf2 HPA)
            | (go_at_call 15; (with_reducible refine (HPB.out w2 HF2.out).mono ?_); rintro e w3 ⟨QA, qc, rfl, ho3, hf3⟩; have HO3 := Lib.hid ho3; have HF3 := Lib.hid hf3; clear ho3 hf3))
          obtain ⟨wb, hwb⟩ : ∃ wb, w3 = wb := ⟨_, rfl⟩
          subst hwb
          have hpr := ownB_rd HO2.out
          have hqr := ownB_rd HO3.out
          obtain ⟨pn, hpn⟩ : ∃ k, P.length = k := ⟨_, rfl⟩
          obtain ⟨qn, hqn⟩ : ∃ k, Q.length = k := ⟨_, rfl⟩
          have hp1 := HP1.out
          rw [hpn] at hp1 ⊢
          rw [hqn]
          have HPN := Lib.hid hpn; have HQN := Lib.hid hqn
          have HP := Lib.hid (fun (w' : World) (h : OldW w3 w') => hpr.fr (HF3.out.trans h) (by simp))
          have HQ := Lib.hid (fun (w' : World) (h : OldW w3 w') => hqr.fr h (by simp))
          have HRP := Lib.hid (fun (w' : World) (h : OldW w3 w') => HR1.out w' ((HF2.out.trans HF3.out).trans h))
          have HHS := Lib.hid (fun (w' : World) (h : OldW w3 w') => HH1.out w' ((HF2.out.trans HF3.out).trans h))
          have HSP := Lib.hid (fun (w' : World) (h : OldW w3 w') => sum_calls w' PA pn pc P hpn (HP.out w' h) (by omega))
          have FB := Lib.hid ((JF.out.trans HF2.out).trans HF3.out)
          clear hpr hqr hpn hqn hp1
          cases sb with
          | false =>
            obtain ⟨W0, hW0⟩ : ∃ W0, w3.drew = W0 := ⟨_, rfl⟩
            have hSW0 : OldW w3 W0 := hW0 ▸ (Fr.refl [] w3).drew
            refine sqo_begin (w0 := w3) (by kernel_rfl) ?_
            rw [hW0]
            clear hW0
            refine sqo_take (i := 0) (v := (.slice PA pn pc)) (d := 98) rfl (by kernel_rfl) (by kernel_rfl) (by kernel_rfl) (by kernel_rfl) (by kernel_rfl) (fun _ _ _ h => h) ?_ (by assumption) ?_
            · intro w9 h9; kernel_rfl
            try simp only [Act.put, List.setIfInBounds_toArray, List.set_cons_zero, List.set_cons_succ]
            refine sqo_take (i := 2) (v := (.int .u8 (ta.toNat : Int))) (d := 100) rfl (by kernel_rfl) (by kernel_rfl) (by kernel_rfl) (by kernel_rfl) (by kernel_rfl) (fun _ _ _ h => h) ?_ (by assumption) ?_
            · intro w9 h9; kernel_rfl
            try simp only [Act.put, List.setIfInBounds_toArray, List.set_cons_zero, List.set_cons_succ]
            refine sqo_take (i := 3) (v := (.slice LA i c)) (d := 101) rfl (by kernel_rfl) (by kernel_rfl) (by kernel_rfl) (by kernel_rfl) (by kernel_rfl) (fun _ _ _ h => h) ?_ (by assumption) ?_
            · intro w9 h9; kernel_rfl
            try simp only [Act.put, List.setIfInBounds_toArray, List.set_cons_zero, List.set_cons_succ]
            refine sqo_take (i := 1) (v := (.string (str P))) (d := 99) rfl (by kernel_rfl) (by kernel_rfl) (by kernel_rfl) (by kernel_rfl) (by kernel_rfl) (fun _ _ _ h => h) ?_ (by assumption) ?_
            · intro w9 h9; exact exec_conv_str (l := P) (c := pc) rfl Try.underlying22 Try.underlying5 Try.underlying9 (by rw [HPN.out]; kernel_rfl) (HP.out w9 h9)
            try simp only [Act.put, List.setIfInBounds_toArray, List.set_cons_zero, List.set_cons_succ]
            refine sqo_only (i := 4) rfl (by kernel_rfl) (by kernel_rfl) ?_
            have hr4 := fun (a : Act) (o : Oper) (K : Act → World → Prop) (Q : Exit → Act → World → Prop) => @sq_call Try.prog Q a o W0 K (OwnB W0 P) 16 #[.int .u8 (ta.toNat : Int), .slice LA i c] 102
            refine hr4 _ _ _ _ ?_ ?_ ?_ ?_
            · kernel_rfl
            · kernel_rfl
            · exact HRP.out W0 hSW0
            rintro e W1 ⟨A9, c9, rfl, ho9, f9⟩
            rw [HPN.out]
            have HO9 := Lib.hid (ownB_rd ho9)
            clear ho9
            have hfW1 := OldW.trans hSW0 f9
            refine ⟨_, rfl, hfW1, ?_⟩
            have hSW1 := hfW1
            clear hr4 hfW1
            try simp only [Act.put, List.setIfInBounds_toArray, List.set_cons_zero, List.set_cons_succ]
            refine sqo_only (i := 5) rfl (by kernel_rfl) (by kernel_rfl) ?_
            have hr5 := fun (a : Act) (o : Oper) (K : Act → World → Prop) (Q : Exit → Act → World → Prop) => @sq_val Try.prog Q a o W1 K (.string (str P)) W1 103
            refine hr5 _ _ _ _ ?_ ?_ ?_
            · kernel_rfl
            · exact exec_conv_str (l := P) (c := c9) rfl Try.underlying22 Try.underlying5 Try.underlying9 (by rw [HPN.out]; kernel_rfl) (HO9.out)
            refine ⟨hSW1, ?_⟩
            clear hr5
            try simp only [Act.put, List.setIfInBounds_toArray, List.set_cons_zero, List.set_cons_succ]
            refine sqo_take (i := 6) (v := (.bool true)) (d := 104) rfl (by kernel_rfl) (by kernel_rfl) (by kernel_rfl) (by kernel_rfl) (by kernel_rfl) (fun _ _ _ h => h) ?_ (by assumption) ?_
            · intro w9 h9; exact ex_eql_str rfl (la := P) (lb := P) (by kernel_rfl) (by kernel_rfl) (by simp)
            try simp only [Act.put, List.setIfInBounds_toArray, List.set_cons_zero, List.set_cons_succ]
            refine sqo_take (i := 7) (v := (.bool true)) (d := 105) rfl (by kernel_rfl) (by kernel_rfl) (by kernel_rfl) (by kernel_rfl) (by kernel_rfl) (fun _ _ _ h => h) ?_ (by assumption) ?_
            · intro w9 h9; kernel_rfl
            try simp only [Act.put, List.setIfInBounds_toArray, List.set_cons_zero, List.set_cons_succ]
            refine sqo_take (i := 8) (v := (.int .u8 (ta.toNat : Int))) (d := 106) rfl (by kernel_rfl) (by kernel_rfl) (by kernel_rfl) (by kernel_rfl) (by kernel_rfl) (fun _ _ _ h => h) ?_ (by assumption) ?_
            · intro w9 h9; kernel_rfl
            try simp only [Act.put, List.setIfInBounds_toArray, List.set_cons_zero, List.set_cons_succ]
            refine sqo_take (i := 9) (v := (.slice LA i c)) (d := 107) rfl (by kernel_rfl) (by kernel_rfl) (by kernel_rfl) (by kernel_rfl) (by kernel_rfl) (fun _ _ _ h => h) ?_ (by assumption) ?_
            · intro w9 h9; kernel_rfl
            try simp only [Act.put, List.setIfInBounds_toArray, List.set_cons_zero, List.set_cons_succ]
            refine sqo_take (i := 11) (v := (.slice PA pn pc)) (d := 109) rfl (by kernel_rfl) (by kernel_rfl) (by kernel_rfl) (by kernel_rfl) (by kernel_rfl) (fun _ _ _ h => h) ?_ (by assumption) ?_
            · intro w9 h9; kernel_rfl
            try simp only [Act.put, List.setIfInBounds_toArray, List.set_cons_zero, List.set_cons_succ]
            refine sqo_only (i := 10) rfl (by kernel_rfl) (by kernel_rfl) ?_
            have hr10 := fun (a : Act) (o : Oper) (K : Act → World → Prop) (Q : Exit → Act → World → Prop) => @sq_call Try.prog Q a o W1 K (Agg (.agg (u8s (shaB P)).toArray) W1) 17 #[.int .u8 (ta.toNat : Int), .slice LA i c] 108
            refine hr10 _ _ _ _ ?_ ?_ ?_ ?_
            · kernel_rfl
            · kernel_rfl
            · exact HHS.out W1 hSW1
            rintro e W2 ⟨rfl, f9⟩
            have hfW2 := OldW.trans hSW1 f9
            refine ⟨_, rfl, hfW2, ?_⟩
            have hSW2 := hfW2
            clear hr10 hfW2
            try simp only [Act.put, List.setIfInBounds_toArray, List.set_cons_zero, List.set_cons_succ]
            refine sqo_only (i := 12) rfl (by kernel_rfl) (by kernel_rfl) ?_
            have hr12 := fun (a : Act) (o : Oper) (K : Act → World → Prop) (Q : Exit → Act → World → Prop) => @sq_call Try.prog Q a o W2 K (Agg (.agg (u8s (shaB P)).toArray) W2) 9 #[.slice PA pn pc] 110
            refine hr12 _ _ _ _ ?_ ?_ ?_ ?_
            · kernel_rfl
            · kernel_rfl
            · exact HSP.out W2 hSW2
            rintro e W3 ⟨rfl, f9⟩
            have hfW3 := OldW.trans hSW2 f9
            refine ⟨_, rfl, hfW3, ?_⟩
            have hSW3 := hfW3
            clear hr12 hfW3
            try simp only [Act.put, List.setIfInBounds_toArray, List.set_cons_zero, List.set_cons_succ]
            refine sqo_take (i := 13) (v := (.bool true)) (d := 111) rfl (by kernel_rfl) (by kernel_rfl) (by kernel_rfl) (by kernel_rfl) (by kernel_rfl) (fun _ _ _ h => h) ?_ (by assumption) ?_
            · intro w9 h9; refine (ex_eql_dig w9 rfl (shaB P) (shaB P) (by kernel_rfl) (by kernel_rfl) (shaB_length P) (shaB_length P)).trans ?_; simp
            try simp only [Act.put, List.setIfInBounds_toArray, List.set_cons_zero, List.set_cons_succ]
            refine sqo_take (i := 14) (v := (.bool true)) (d := 112) rfl (by kernel_rfl) (by kernel_rfl) (by kernel_rfl) (by kernel_rfl) (by kernel_rfl) (fun _ _ _ h => h) ?_ (by assumption) ?_
            · intro w9 h9; kernel_rfl
            try simp only [Act.put, List.setIfInBounds_toArray, List.set_cons_zero, List.set_cons_succ]
            refine sqo_take (i := 15) (v := (.bool true)) (d := 113) rfl (by kernel_rfl) (by kernel_rfl) (by kernel_rfl) (by kernel_rfl) (by kernel_rfl) (fun _ _ _ h => h) ?_ (by assumption) ?_
            · intro w9 h9; kernel_rfl
            try simp only [Act.put, List.setIfInBounds_toArray, List.set_cons_zero, List.set_cons_succ]
            refine sqo_take (i := 16) (v := (.slice PA pn pc)) (d := 114) rfl (by kernel_rfl) (by kernel_rfl) (by kernel_rfl) (by kernel_rfl) (by kernel_rfl) (fun _ _ _ h => h) ?_ (by assumption) ?_
            · intro w9 h9; kernel_rfl
            try simp only [Act.put, List.setIfInBounds_toArray, List.set_cons_zero, List.set_cons_succ]
            refine sqo_take (i := 17) (v := (.string (str P))) (d := 115) rfl (by kernel_rfl) (by kernel_rfl) (by kernel_rfl) (by kernel_rfl) (by kernel_rfl) (fun _ _ _ h => h) ?_ (by assumption) ?_
            · intro w9 h9; exact exec_conv_str (l := P) (c := pc) rfl Try.underlying22 Try.underlying5 Try.underlying9 (by rw [HPN.out]; kernel_rfl) (HP.out w9 h9)
            try simp only [Act.put, List.setIfInBounds_toArray, List.set_cons_zero, List.set_cons_succ]
            refine sqo_take (i := 18) (v := (.slice QA qn qc)) (d := 116) rfl (by kernel_rfl) (by kernel_rfl) (by kernel_rfl) (by kernel_rfl) (by kernel_rfl) (fun _ _ _ h => h) ?_ (by assumption) ?_
            · intro w9 h9; kernel_rfl
            try simp only [Act.put, List.setIfInBounds_toArray, List.set_cons_zero, List.set_cons_succ]
            refine sqo_take (i := 19) (v := (.string (str Q))) (d := 117) rfl (by kernel_rfl) (by kernel_rfl) (by kernel_rfl) (by kernel_rfl) (by kernel_rfl) (fun _ _ _ h => h) ?_ (by assumption) ?_
            · intro w9 h9; exact exec_conv_str (l := Q) (c := qc) rfl Try.underlying22 Try.underlying5 Try.underlying9 (by rw [HQN.out]; kernel_rfl) (HQ.out w9 h9)
            try simp only [Act.put, List.setIfInBounds_toArray, List.set_cons_zero, List.set_cons_succ]
            refine sqo_take (i := 20) (v := (.bool false)) (d := 118) rfl (by kernel_rfl) (by kernel_rfl) (by kernel_rfl) (by kernel_rfl) (by kernel_rfl) (fun _ _ _ h => h) ?_ (by assumption) ?_
            · intro w9 h9; exact ex_eql_str rfl (la := P) (lb := Q) (by kernel_rfl) (by kernel_rfl) HPQ.out
            try simp only [Act.put, List.setIfInBounds_toArray, List.set_cons_zero, List.set_cons_succ]
            refine sqo_take (i := 21) (v := (.bool false)) (d := 119) rfl (by kernel_rfl) (by kernel_rfl) (by kernel_rfl) (by kernel_rfl) (by kernel_rfl) (fun _ _ _ h => h) ?_ (by assumption) ?_
            · intro w9 h9; kernel_rfl
            try simp only [Act.put, List.setIfInBounds_toArray, List.set_cons_zero, List.set_cons_succ]
            refine sqo_take (i := 22) (v := (.bool true)) (d := 120) rfl (by kernel_rfl) (by kernel_rfl) (by kernel_rfl) (by kernel_rfl) (by kernel_rfl) (fun _ _ _ h => h) ?_ (by assumption) ?_
            · intro w9 h9; kernel_rfl
            try simp only [Act.put, List.setIfInBounds_toArray, List.set_cons_zero, List.set_cons_succ]
            refine sqo_take (i := 23) (v := (.bool true)) (d := 121) rfl (by kernel_rfl) (by kernel_rfl) (by kernel_rfl) (by kernel_rfl) (by kernel_rfl) (fun _ _ _ h => h) ?_ (by assumption) ?_
            · intro w9 h9; kernel_rfl
            try simp only [Act.put, List.setIfInBounds_toArray, List.set_cons_zero, List.set_cons_succ]
            refine sqo_take (i := 24) (v := (.bool true)) (d := 8) rfl (by kernel_rfl) (by kernel_rfl) (by kernel_rfl) (by kernel_rfl) (by kernel_rfl) (fun _ _ _ h => h) ?_ (by assumption) ?_
            · intro w9 h9; kernel_rfl
            try simp only [Act.put, List.setIfInBounds_toArray, List.set_cons_zero, List.set_cons_succ]
            refine wpAnyH_done (by kernel_rfl) ?_ _
            go_wp2_with fail
            go_ret
            exact ⟨rfl, FB.out.trans hSW3⟩
          | true =>
            obtain ⟨W0, hW0⟩ : ∃ W0, w3.drew = W0 := ⟨_, rfl⟩
            have hSW0 : OldW w3 W0 := hW0 ▸ (Fr.refl [] w3).drew
            refine sqo_begin (w0 := w3) (by kernel_rfl) ?_
            rw [hW0]
            clear hW0
            refine sqo_take (i := 0) (v := (.slice PA pn pc)) (d := 98) rfl (by kernel_rfl) (by kernel_rfl) (by kernel_rfl) (by kernel_rfl) (by kernel_rfl) (fun _ _ _ h => h) ?_ (by assumption) ?_
            · intro w9 h9; kernel_rfl
            try simp only [Act.put, List.setIfInBounds_toArray, List.set_cons_zero, List.set_cons_succ]
            refine sqo_take (i := 2) (v := (.int .u8 (ta.toNat : Int))) (d := 100) rfl (by kernel_rfl) (by kernel_rfl) (by kernel_rfl) (by kernel_rfl) (by kernel_rfl) (fun _ _ _ h => h) ?_ (by assumption) ?_
            · intro w9 h9; kernel_rfl
            try simp only [Act.put, List.setIfInBounds_toArray, List.set_cons_zero, List.set_cons_succ]
            refine sqo_take (i := 3) (v := (.slice LA i c)) (d := 101) rfl (by kernel_rfl) (by kernel_rfl) (by kernel_rfl) (by kernel_rfl) (by kernel_rfl) (fun _ _ _ h => h) ?_ (by assumption) ?_
            · intro w9 h9; kernel_rfl
            try simp only [Act.put, List.setIfInBounds_toArray, List.set_cons_zero, List.set_cons_succ]
            refine sqo_take (i := 1) (v := (.string (str P))) (d := 99) rfl (by kernel_rfl) (by kernel_rfl) (by kernel_rfl) (by kernel_rfl) (by kernel_rfl) (fun _ _ _ h => h) ?_ (by assumption) ?_
            · intro w9 h9; exact exec_conv_str (l := P) (c := pc) rfl Try.underlying22 Try.underlying5 Try.underlying9 (by rw [HPN.out]; kernel_rfl) (HP.out w9 h9)
            try simp only [Act.put, List.setIfInBounds_toArray, List.set_cons_zero, List.set_cons_succ]
            refine sqo_only (i := 4) rfl (by kernel_rfl) (by kernel_rfl) ?_
            have hr4 := fun (a : Act) (o : Oper) (K : Act → World → Prop) (Q : Exit → Act → World → Prop) => @sq_call Try.prog Q a o W0 K (OwnB W0 P) 16 #[.int .u8 (ta.toNat : Int), .slice LA i c] 102
            refine hr4 _ _ _ _ ?_ ?_ ?_ ?_
            · kernel_rfl
            · kernel_rfl
            · exact HRP.out W0 hSW0
            rintro e W1 ⟨A9, c9, rfl, ho9, f9⟩
            rw [HPN.out]
            have HO9 := Lib.hid (ownB_rd ho9)
            clear ho9
            have hfW1 := OldW.trans hSW0 f9
            refine ⟨_, rfl, hfW1, ?_⟩
            have hSW1 := hfW1
            clear hr4 hfW1
            try simp only [Act.put, List.setIfInBounds_toArray, List.set_cons_zero, List.set_cons_succ]
            refine sqo_only (i := 5) rfl (by kernel_rfl) (by kernel_rfl) ?_
            have hr5 := fun (a : Act) (o : Oper) (K : Act → World → Prop) (Q : Exit → Act → World → Prop) => @sq_val Try.prog Q a o W1 K (.string (str P)) W1 103
            refine hr5 _ _ _ _ ?_ ?_ ?_
            · kernel_rfl
            · exact exec_conv_str (l := P) (c := c9) rfl Try.underlying22 Try.underlying5 Try.underlying9 (by rw [HPN.out]; kernel_rfl) (HO9.out)
            refine ⟨hSW1, ?_⟩
            clear hr5
            try simp only [Act.put, List.setIfInBounds_toArray, List.set_cons_zero, List.set_cons_succ]
            refine sqo_take (i := 6) (v := (.bool true)) (d := 104) rfl (by kernel_rfl) (by kernel_rfl) (by kernel_rfl) (by kernel_rfl) (by kernel_rfl) (fun _ _ _ h => h) ?_ (by assumption) ?_
            · intro w9 h9; exact ex_eql_str rfl (la := P) (lb := P) (by kernel_rfl) (by kernel_rfl) (by simp)
            try simp only [Act.put, List.setIfInBounds_toArray, List.set_cons_zero, List.set_cons_succ]
            refine sqo_take (i := 7) (v := (.bool true)) (d := 105) rfl (by kernel_rfl) (by kernel_rfl) (by kernel_rfl) (by kernel_rfl) (by kernel_rfl) (fun _ _ _ h => h) ?_ (by assumption) ?_
            · intro w9 h9; kernel_rfl
            try simp only [Act.put, List.setIfInBounds_toArray, List.set_cons_zero, List.set_cons_succ]
            refine sqo_take (i := 8) (v := (.int .u8 (ta.toNat : Int))) (d := 106) rfl (by kernel_rfl) (by kernel_rfl) (by kernel_rfl) (by kernel_rfl) (by kernel_rfl) (fun _ _ _ h => h) ?_ (by assumption) ?_
            · intro w9 h9; kernel_rfl
            try simp only [Act.put, List.setIfInBounds_toArray, List.set_cons_zero, List.set_cons_succ]
            refine sqo_take (i := 9) (v := (.slice LA i c)) (d := 107) rfl (by kernel_rfl) (by kernel_rfl) (by kernel_rfl) (by kernel_rfl) (by kernel_rfl) (fun _ _ _ h => h) ?_ (by assumption) ?_
            · intro w9 h9; kernel_rfl
            try simp only [Act.put, List.setIfInBounds_toArray, List.set_cons_zero, List.set_cons_succ]
            refine sqo_take (i := 11) (v := (.slice PA pn pc)) (d := 109) rfl (by kernel_rfl) (by kernel_rfl) (by kernel_rfl) (by kernel_rfl) (by kernel_rfl) (fun _ _ _ h => h) ?_ (by assumption) ?_
            · intro w9 h9; kernel_rfl
            try simp only [Act.put, List.setIfInBounds_toArray, List.set_cons_zero, List.set_cons_succ]
            refine sqo_only (i := 10) rfl (by kernel_rfl) (by kernel_rfl) ?_
            have hr10 := fun (a : Act) (o : Oper) (K : Act → World → Prop) (Q : Exit → Act → World → Prop) => @sq_call Try.prog Q a o W1 K (Agg (.agg (u8s (shaB P)).toArray) W1) 17 #[.int .u8 (ta.toNat : Int), .slice LA i c] 108
            refine hr10 _ _ _ _ ?_ ?_ ?_ ?_
            · kernel_rfl
            · kernel_rfl
            · exact HHS.out W1 hSW1
            rintro e W2 ⟨rfl, f9⟩
            have hfW2 := OldW.trans hSW1 f9
            refine ⟨_, rfl, hfW2, ?_⟩
            have hSW2 := hfW2
            clear hr10 hfW2
            try simp only [Act.put, List.setIfInBounds_toArray, List.set_cons_zero, List.set_cons_succ]
            refine sqo_only (i := 12) rfl (by kernel_rfl) (by kernel_rfl) ?_
            have hr12 := fun (a : Act) (o : Oper) (K : Act → World → Prop) (Q : Exit → Act → World → Prop) => @sq_call Try.prog Q a o W2 K (Agg (.agg (u8s (shaB P)).toArray) W2) 9 #[.slice PA pn pc] 110
            refine hr12 _ _ _ _ ?_ ?_ ?_ ?_
            · kernel_rfl
            · kernel_rfl
            · exact HSP.out W2 hSW2
            rintro e W3 ⟨rfl, f9⟩
            have hfW3 := OldW.trans hSW2 f9
            refine ⟨_, rfl, hfW3, ?_⟩
            have hSW3 := hfW3
            clear hr12 hfW3
            try simp only [Act.put, List.setIfInBounds_toArray, List.set_cons_zero, List.set_cons_succ]
            refine sqo_take (i := 13) (v := (.bool true)) (d := 111) rfl (by kernel_rfl) (by kernel_rfl) (by kernel_rfl) (by kernel_rfl) (by kernel_rfl) (fun _ _ _ h => h) ?_ (by assumption) ?_
            · intro w9 h9; refine (ex_eql_dig w9 rfl (shaB P) (shaB P) (by kernel_rfl) (by kernel_rfl) (shaB_length P) (shaB_length P)).trans ?_; simp
            try simp only [Act.put, List.setIfInBounds_toArray, List.set_cons_zero, List.set_cons_succ]
            refine sqo_take (i := 14) (v := (.bool true)) (d := 112) rfl (by kernel_rfl) (by kernel_rfl) (by kernel_rfl) (by kernel_rfl) (by kernel_rfl) (fun _ _ _ h => h) ?_ (by assumption) ?_
            · intro w9 h9; kernel_rfl
            try simp only [Act.put, List.setIfInBounds_toArray, List.set_cons_zero, List.set_cons_succ]
            refine sqo_take (i := 15) (v := (.bool true)) (d := 113) rfl (by kernel_rfl) (by kernel_rfl) (by kernel_rfl) (by kernel_rfl) (by kernel_rfl) (fun _ _ _ h => h) ?_ (by assumption) ?_
            · intro w9 h9; kernel_rfl
            try simp only [Act.put, List.setIfInBounds_toArray, List.set_cons_zero, List.set_cons_succ]
            refine sqo_take (i := 16) (v := (.slice PA pn pc)) (d := 114) rfl (by kernel_rfl) (by kernel_rfl) (by kernel_rfl) (by kernel_rfl) (by kernel_rfl) (fun _ _ _ h => h) ?_ (by assumption) ?_
            · intro w9 h9; kernel_rfl
            try simp only [Act.put, List.setIfInBounds_toArray, List.set_cons_zero, List.set_cons_succ]
            refine sqo_take (i := 17) (v := (.string (str P))) (d := 115) rfl (by kernel_rfl) (by kernel_rfl) (by kernel_rfl) (by kernel_rfl) (by kernel_rfl) (fun _ _ _ h => h) ?_ (by assumption) ?_
            · intro w9 h9; exact exec_conv_str (l := P) (c := pc) rfl Try.underlying22 Try.underlying5 Try.underlying9 (by rw [HPN.out]; kernel_rfl) (HP.out w9 h9)
            try simp only [Act.put, List.setIfInBounds_toArray, List.set_cons_zero, List.set_cons_succ]
            refine sqo_take (i := 18) (v := (.slice QA qn qc)) (d := 116) rfl (by kernel_rfl) (by kernel_rfl) (by kernel_rfl) (by kernel_rfl) (by kernel_rfl) (fun _ _ _ h => h) ?_ (by assumption) ?_
            · intro w9 h9; kernel_rfl
            try simp only [Act.put, List.setIfInBounds_toArray, List.set_cons_zero, List.set_cons_succ]
            refine sqo_take (i := 19) (v := (.string (str Q))) (d := 117) rfl (by kernel_rfl) (by kernel_rfl) (by kernel_rfl) (by kernel_rfl) (by kernel_rfl) (fun _ _ _ h => h) ?_ (by assumption) ?_
            · intro w9 h9; exact exec_conv_str (l := Q) (c := qc) rfl Try.underlying22 Try.underlying5 Try.underlying9 (by rw [HQN.out]; kernel_rfl) (HQ.out w9 h9)
            try simp only [Act.put, List.setIfInBounds_toArray, List.set_cons_zero, List.set_cons_succ]
            refine sqo_take (i := 20) (v := (.bool true)) (d := 118) rfl (by kernel_rfl) (by kernel_rfl) (by kernel_rfl) (by kernel_rfl) (by kernel_rfl) (fun _ _ _ h => h) ?_ (by assumption) ?_
            · intro w9 h9; exact ex_eql_str rfl (la := P) (lb := Q) (by kernel_rfl) (by kernel_rfl) HPQ.out
            try simp only [Act.put, List.setIfInBounds_toArray, List.set_cons_zero, List.set_cons_succ]
            refine sqo_take (i := 21) (v := (.bool true)) (d := 119) rfl (by kernel_rfl) (by kernel_rfl) (by kernel_rfl) (by kernel_rfl) (by kernel_rfl) (fun _ _ _ h => h) ?_ (by assumption) ?_
            · intro w9 h9; kernel_rfl
            try simp only [Act.put, List.setIfInBounds_toArray, List.set_cons_zero, List.set_cons_succ]
            refine sqo_take (i := 22) (v := (.bool true)) (d := 120) rfl (by kernel_rfl) (by kernel_rfl) (by kernel_rfl) (by kernel_rfl) (by kernel_rfl) (fun _ _ _ h => h) ?_ (by assumption) ?_
            · intro w9 h9; kernel_rfl
            try simp only [Act.put, List.setIfInBounds_toArray, List.set_cons_zero, List.set_cons_succ]
            refine sqo_take (i := 23) (v := (.bool true)) (d := 121) rfl (by kernel_rfl) (by kernel_rfl) (by kernel_rfl) (by kernel_rfl) (by kernel_rfl) (fun _ _ _ h => h) ?_ (by assumption) ?_
            · intro w9 h9; kernel_rfl
            try simp only [Act.put, List.setIfInBounds_toArray, List.set_cons_zero, List.set_cons_succ]
            refine sqo_take (i := 24) (v := (.bool true)) (d := 8) rfl (by kernel_rfl) (by kernel_rfl) (by kernel_rfl) (by kernel_rfl) (by kernel_rfl) (fun _ _ _ h => h) ?_ (by assumption) ?_
            · intro w9 h9; kernel_rfl
            try simp only [Act.put, List.setIfInBounds_toArray, List.set_cons_zero, List.set_cons_succ]
            refine wpAnyH_done (by kernel_rfl) ?_ _
            go_wp2_with fail
            go_ret
            exact ⟨rfl, FB.out.trans hSW3⟩
end Go.Proofs.Ytgjcnmlfoagnpaa
