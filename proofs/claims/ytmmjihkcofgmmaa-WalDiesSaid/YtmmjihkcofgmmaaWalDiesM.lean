/- WalDies: for every byte and every list of steps the law returns true, and the arguments read behind the call as before; no condition. -/
import Derived.Test.YtmmjihkcofgmmaaGl
import Derived.Test.YtmmjihkcofgmmaaRows
import Derived.WalkKit
import Derived.ProofKit
import Derived.OpenShut
import Derived.ShutString
import Derived.ChangeOld
import Derived.Below

/- The walk of WalDies. -/
namespace Go.Proofs.Ytmmjihkcofgmmaa
open Go.RowKit
set_option linter.unusedVariables false

/-- the law's state between two steps -/
structure DI (w wr : World) (p g N : Nat) (s : Dk.DS) (T : List (List UInt8)) (x : Nat) (lv va : Value) (D : List Nat) (base : Nat) : Prop where
  log : LS w wr x p g N N s lv T false D base
  row : ARow w wr va T
  hD : ∀ q, va.ownBlock = some q → q ∈ D
  hne : ∀ q, lv.ownBlock = some q → va.ownBlock ≠ some q
  good : Good N s.bs T
  alive : s.dead = false
theorem DI.form {w wr : World} {p g N : Nat} {s : Dk.DS} {T : List (List UInt8)} {x : Nat} {lv va : Value} {D : List Nat} {base : Nat} (h : DI w wr p g N s T x lv va D base) : ∃ A c, va = .slice A T.length c :=
  let ⟨A, c, hv, _⟩ := h.row.toIn h.log.fr; ⟨A, c, hv⟩
theorem TxRow.inA {w : World} {A : Option Addr} {n c : Nat} {D : List Nat} {base : Nat} {T : List (List UInt8)} (h : TxRow w (.slice A n c) D base T) : TxIn w A T := by
  obtain ⟨A', c', hv, _, hT⟩ := h.toIn
  injection hv with hv
  subst hv
  exact hT
theorem exec_conv_n {P : Program} {a : Act} {o : Oper} {w : World} {src dst : TypeId} {x : Operand} (ho : o.op = .convert src dst x) {e : TypeId} (hu : P.underlying src = some (.slice e)) (he : P.underlying e = some (.int .u8)) (ht : P.underlying dst = some .string) {A : Option Addr} {n c : Nat} {l : List UInt8} (hn : l.length = n) (hx : a.eval x = .slice A n c) (hr : Rd w A l) : (execOp a.eval o).run P w = .ok (.value (.string (str l))) w := by
  subst hn
  exact exec_conv_str ho hu he ht hx hr
theorem dead_k (W : World) (p g n cap : Nat) (s : Dk.DS) (h : Dk.IsDisk W p g n cap s) (d : Bool) (hd : s.dead = d) : Calls Try.prog 28 #[.pointer (some ⟨p, 0, none⟩)] W (Same (.bool d) W) := by
  subst hd
  exact Dk.dead_calls W p g n cap s h
set_option maxHeartbeats 8000000 in
set_option maxRecDepth 100000 in
theorem dies_walk (w : World) (y : UInt8) (A : Option Addr) (n c : Nat) (l : List St) (hn : l.length = n) (hL : StIn w A l) (hmax : n ≤ maxLen) (hb : ∀ (i : Nat) (s : St), l[i]? = some s → (-9223372036854775808 ≤ s.k ∧ s.k ≤ 9223372036854775807) ∧ (-9223372036854775808 ≤ s.torn ∧ s.torn ≤ 9223372036854775807)) :
    Calls Try.prog 7 #[.int .u8 (y.toNat : Int), .slice A n c] w (Agg (.bool true) w) := by
  have HAL := Lib.hid (alive08 w)
  have HGR := Lib.hid (fun W (f : Fr [] w W) => great_calls W A n c l hn (hL.fr f) hmax)
  unfold maxLen at hmax
  have hnI : (0 : Int) ≤ (n : Int) := by omega
  by_cases hg : greatB l = true
  · rw [hg] at HGR
    clear hn hL hmax
    go_enter Try.func7, Try.ntmps7
    go_wp2_with (first
      | (go_at_call 8; (with_reducible refine HAL.out.mono ?_); rintro e w2 ⟨rfl, f2⟩; have F2 := Lib.hid f2; clear f2)
      | (go_at_call 20; (with_reducible refine (HGR.out _ F2.out).mono ?_); rintro e w3 ⟨rfl, f3⟩; have F3 := Lib.hid (F2.out.trans f3); clear f3))
    go_ret
    exact ⟨rfl, F3.out⟩
  · have hgf : greatB l = false := by simpa using hg
    rw [hgf] at HGR
    have hy := y.toNat_lt
    obtain ⟨N, hN⟩ : ∃ N, y.toNat % 80 = N := ⟨_, rfl⟩
    have hN80 : N ≤ 80 := by omega
    have HN := Lib.hid hN
    have HL := Lib.hid hL; have HLN := Lib.hid hn; have HG := Lib.hid hgf; have HB := Lib.hid hb
    have hNI : (0 : Int) ≤ (N : Int) ∧ (N : Int) ≤ 80 := by omega
    have hyI : (0 : Int) ≤ (y.toNat : Int) ∧ (y.toNat : Int) < 256 := by omega
    clear hn hL hmax hg hgf hN hb
    go_enter Try.func7, Try.ntmps7
    go_upto_block 0 with (first
      | (go_at_call 8; (with_reducible refine HAL.out.mono ?_); rintro e w2 ⟨rfl, f2⟩; have F2 := Lib.hid f2; clear f2)
      | (go_at_call 20; (with_reducible refine (HGR.out _ F2.out).mono ?_); rintro e w3 ⟨rfl, f3⟩; have F3 := Lib.hid (F2.out.trans f3); clear f3)
      | (go_at_call 12; (with_reducible refine (newd_calls _ _ N (by have := HN.out; omega) (by omega)).mono ?_); rintro e w4 ⟨p, g, rfl, hp, hgg, hd4, f4⟩; have HP := Lib.hid (And.intro (Nat.le_trans F3.out.size hp) (Nat.le_trans F3.out.size hgg)); have HO4 := Lib.hid (openl_calls w w4 p g N N _ [] hd4 rfl (Good.new N) (F3.out.trans f4) HP.out.1 HP.out.2 [] (by simp)); clear hp hgg hd4 f4)
      | (go_at_call 14; (with_reducible refine HO4.out.mono ?_); rintro e w5 ⟨x, lv, rfl, _, hl5, _⟩; have HL5 := Lib.hid (show DI w w5 p g N (Dk.DS.new N) [] x lv (.slice none 0 0) [x, p, g] w4.heap.size from ⟨hl5, ARow.nil _ _, fun q h => (by cases h), fun q _ h => (by cases h), Good.new N, rfl⟩); clear hl5))
    go_cut [7, 9] (fun vx va wc => ∃ s T x lv D base, vx = .pointer (some ⟨x, 0, none⟩) ∧ DI w wc p g N s T x lv va D base)
    case first =>
      go_wp2_with fail
      go_loopg [7, 9, 10] 30 (fun gg vx va u wr => ∃ (j : Nat) (s : Dk.DS) (T : List (List UInt8)) (x : Nat) (lv' : Value) (D : List Nat) (base : Nat), j ≤ n ∧ j ≤ 30 ∧ gg = 30 - j ∧ vx = .pointer (some ⟨x, 0, none⟩) ∧ u = .int .i64 (j : Int) ∧ DI w wr p g N s T x lv' va D base ∧ T.length ≤ j ∧ s.writes ≤ 100 * j)
      case atStart => exact ⟨0, _, _, x, _, _, _, by omega, by omega, by omega, rfl, rfl, HL5.out, Nat.zero_le _, Nat.zero_le _⟩
      case round =>
        rename World => wr
        obtain ⟨j, s, T, xx, lv', D, base, hj, hj30, rfl, rfl, rfl, hI0, hTj, hwj⟩ := hrel
        have HI := Lib.hid hI0
        obtain ⟨aA, ac, rfl⟩ := hI0.form
        have hjI : (0 : Int) ≤ (j : Int) := by omega
        clear hI0
        by_cases hlt : j < n
        · by_cases h30 : j < 30
          · obtain ⟨st, hst⟩ : ∃ st, l[j]? = some st := ⟨l[j]'(by have := HLN.out; omega), by simp⟩
            obtain ⟨bA, oA, A', c', hA, hc0, hcap, hrd, hc1, hc2, hc3⟩ := HL.out.at HI.out.log.fr hst
            subst hA
            have hst1 := great_small HG.out hst (by omega)
            obtain ⟨k1, hk1⟩ : ∃ k1, st.B.length = k1 := ⟨_, rfl⟩
            have hng : needN st.B.length ≤ 50 := by rw [needN_le _ (by omega)]; omega
            have hix := fun w' => run_index_slice' (P := Try.prog) (t := 45) (size := 4) w' Try.underlying45 size_step (A := some ⟨bA, oA, none⟩) (n := n) (c := c) (j := j) rfl hlt
            have hltI : (j : Int) < (n : Int) ∧ (j : Int) < 30 := by omega
            have hbw := World.block_lt_of_cell? _ _ hc0
            rw [hk1] at hc0
            obtain ⟨dd, hdd⟩ : ∃ dd, st.dies = dd := ⟨_, rfl⟩
            rw [hdd] at hc1
            go_upto_if 50 with fail
            go_cut [] (fun wc => ∃ s1, LS w wc xx p g N N s1 lv' T false D base ∧ ARow w wc (.slice aA T.length ac) T ∧ s1.bs = s.bs ∧ s1.dead = false ∧ s1.writes = s.writes)
            case first =>
              cases dd with
              | true =>
                obtain ⟨s1, hs1⟩ : ∃ s1 : Dk.DS, { s with fuse := max st.k (-1), torn := (min (max st.torn 0) 64).toNat } = s1 := ⟨_, rfl⟩
                have HS1 := Lib.hid (show s1.bs = s.bs ∧ s1.dead = false ∧ s1.writes = s.writes from hs1 ▸ ⟨rfl, HI.out.alive, rfl⟩)
                have HFU := Lib.hid (hs1 ▸ Dk.fuse_calls wr.drew p g N N s (HI.out.log.log.disk.fr (Fr.refl [] wr).drew (by simp) (by simp)) st.k st.torn (HB.out j st hst).1.2)
                have HBW := Lib.hid (show bA < wr.heap.size from hbw)
                have HPX := Lib.hid (show bA < w.heap.size from by obtain ⟨b2, o2, _, _, e2, hb2, _⟩ := HL.out j st hst; injection e2 with e2; injection e2 with e2; omega)
                have HNPG := Lib.hid (show bA ∉ [p, g] from fun hm => by have h1 := HPX.out; have h2 := HP.out; simp at hm; omega)
                clear hs1
                go_wp2_with fail
                have hS0 : wr.drew.cell? ⟨bA, oA + j * 4 + 2, none⟩ = some (.int .i64 st.k) ∧ wr.drew.cell? ⟨bA, oA + j * 4 + 3, none⟩ = some (.int .i64 st.torn) := ⟨hc2, hc3⟩
                refine sqs_begin (fun w9 => w9.cell? ⟨bA, oA + j * 4 + 2, none⟩ = some (.int .i64 st.k) ∧ w9.cell? ⟨bA, oA + j * 4 + 3, none⟩ = some (.int .i64 st.torn)) (by kernel_rfl) ?_
                refine sqs_take (i := 0) (v := (.pointer (some ⟨p, 0, none⟩))) (d := 51) rfl (by kernel_rfl) (by kernel_rfl) (by kernel_rfl) (by kernel_rfl) (by kernel_rfl) (fun _ _ _ h => h) ?_ (by assumption) ?_
                · intro w9 h9; kernel_rfl
                try simp only [Act.put, List.setIfInBounds_toArray, List.set_cons_zero, List.set_cons_succ]
                refine sqs_take (i := 1) (v := (.slice (some ⟨bA, oA, none⟩) n c)) (d := 52) rfl (by kernel_rfl) (by kernel_rfl) (by kernel_rfl) (by kernel_rfl) (by kernel_rfl) (fun _ _ _ h => h) ?_ (by assumption) ?_
                · intro w9 h9; kernel_rfl
                try simp only [Act.put, List.setIfInBounds_toArray, List.set_cons_zero, List.set_cons_succ]
                refine sqs_take (i := 2) (v := (.int .i64 (j : Int))) (d := 53) rfl (by kernel_rfl) (by kernel_rfl) (by kernel_rfl) (by kernel_rfl) (by kernel_rfl) (fun _ _ _ h => h) ?_ (by assumption) ?_
                · intro w9 h9; kernel_rfl
                try simp only [Act.put, List.setIfInBounds_toArray, List.set_cons_zero, List.set_cons_succ]
                refine sqs_take (i := 3) (v := (.pointer (some ⟨bA, oA + j * 4, none⟩))) (d := 54) rfl (by kernel_rfl) (by kernel_rfl) (by kernel_rfl) (by kernel_rfl) (by kernel_rfl) (fun _ _ _ h => h) ?_ (by assumption) ?_
                · intro w9 h9; exact ex_ixa rfl (by kernel_rfl) (by kernel_rfl) (hix w9)
                try simp only [Act.put, List.setIfInBounds_toArray, List.set_cons_zero, List.set_cons_succ]
                refine sqs_take (i := 4) (v := (.pointer (some ⟨bA, oA + j * 4 + 2, none⟩))) (d := 55) rfl (by kernel_rfl) (by kernel_rfl) (by kernel_rfl) (by kernel_rfl) (by kernel_rfl) (fun _ _ _ h => h) ?_ (by assumption) ?_
                · intro w9 h9; kernel_rfl
                try simp only [Act.put, List.setIfInBounds_toArray, List.set_cons_zero, List.set_cons_succ]
                refine sqs_take (i := 5) (v := (.int .i64 st.k)) (d := 56) rfl (by kernel_rfl) (by kernel_rfl) (by kernel_rfl) (by kernel_rfl) (by kernel_rfl) (fun _ _ _ h => h) ?_ (by assumption) ?_
                · intro w9 h9; exact exec_load_one rfl (by kernel_rfl) (.int .i64 st.k) (.int .i64) w9 h9.1 Try.underlying3 rfl
                try simp only [Act.put, List.setIfInBounds_toArray, List.set_cons_zero, List.set_cons_succ]
                refine sqs_take (i := 6) (v := (.slice (some ⟨bA, oA, none⟩) n c)) (d := 57) rfl (by kernel_rfl) (by kernel_rfl) (by kernel_rfl) (by kernel_rfl) (by kernel_rfl) (fun _ _ _ h => h) ?_ (by assumption) ?_
                · intro w9 h9; kernel_rfl
                try simp only [Act.put, List.setIfInBounds_toArray, List.set_cons_zero, List.set_cons_succ]
                refine sqs_take (i := 7) (v := (.int .i64 (j : Int))) (d := 58) rfl (by kernel_rfl) (by kernel_rfl) (by kernel_rfl) (by kernel_rfl) (by kernel_rfl) (fun _ _ _ h => h) ?_ (by assumption) ?_
                · intro w9 h9; kernel_rfl
                try simp only [Act.put, List.setIfInBounds_toArray, List.set_cons_zero, List.set_cons_succ]
                refine sqs_take (i := 8) (v := (.pointer (some ⟨bA, oA + j * 4, none⟩))) (d := 59) rfl (by kernel_rfl) (by kernel_rfl) (by kernel_rfl) (by kernel_rfl) (by kernel_rfl) (fun _ _ _ h => h) ?_ (by assumption) ?_
                · intro w9 h9; exact ex_ixa rfl (by kernel_rfl) (by kernel_rfl) (hix w9)
                try simp only [Act.put, List.setIfInBounds_toArray, List.set_cons_zero, List.set_cons_succ]
                refine sqs_take (i := 9) (v := (.pointer (some ⟨bA, oA + j * 4 + 3, none⟩))) (d := 60) rfl (by kernel_rfl) (by kernel_rfl) (by kernel_rfl) (by kernel_rfl) (by kernel_rfl) (fun _ _ _ h => h) ?_ (by assumption) ?_
                · intro w9 h9; kernel_rfl
                try simp only [Act.put, List.setIfInBounds_toArray, List.set_cons_zero, List.set_cons_succ]
                refine sqs_take (i := 10) (v := (.int .i64 st.torn)) (d := 61) rfl (by kernel_rfl) (by kernel_rfl) (by kernel_rfl) (by kernel_rfl) (by kernel_rfl) (fun _ _ _ h => h) ?_ (by assumption) ?_
                · intro w9 h9; exact exec_load_one rfl (by kernel_rfl) (.int .i64 st.torn) (.int .i64) w9 h9.2 Try.underlying3 rfl
                try simp only [Act.put, List.setIfInBounds_toArray, List.set_cons_zero, List.set_cons_succ]
                refine sqs_only (i := 11) rfl (by kernel_rfl) (by kernel_rfl) ?_
                have hr11 := fun (a₀ : Act) (o₀ : Oper) (K₀ : Act → World → Prop) (Q₀ : Exit → Act → World → Prop) => @sq_call Try.prog Q₀ a₀ o₀ wr.drew K₀ (Dk.DPost p g N N (.tuple #[]) s1 wr.drew) 24 #[.pointer (some ⟨p, 0, none⟩), .int .i64 st.k, .int .i64 st.torn] 62
                refine hr11 _ _ _ _ ?_ ?_ ?_ ?_
                · kernel_rfl
                · kernel_rfl
                · exact HFU.out
                rintro e w9 ⟨rfl, hd9, f9⟩
                have hS3 : w9.cell? ⟨bA, oA + j * 4 + 2, none⟩ = some (.int .i64 st.k) ∧ w9.cell? ⟨bA, oA + j * 4 + 3, none⟩ = some (.int .i64 st.torn) := ⟨(f9.cell (p := ⟨bA, _, none⟩) HBW.out HNPG.out).trans hc2, (f9.cell (p := ⟨bA, _, none⟩) HBW.out HNPG.out).trans hc3⟩
                refine ⟨_, rfl, hS3, ?_⟩
                clear hr11
                try simp only [Act.put, List.setIfInBounds_toArray, List.set_cons_zero, List.set_cons_succ]
                refine wpAnyH_done (by kernel_rfl) ?_ _
                have HLF := Lib.hid ((HI.out.log.to (Fr.refl [] wr).drew).onDisk hd9 f9)
                have HAF := Lib.hid ((HI.out.row.fr0 (Fr.refl [] wr).drew).disk (HI.out.log.log.disk.fr (Fr.refl [] wr).drew (by simp) (by simp)) f9)
                clear hS3 hS0 hd9 f9
                go_wp2_with fail
                go_meet
                exact ⟨s1, HLF.out, HAF.out, HS1.out⟩
              | false =>
                go_wp2_with fail
                go_meet
                exact ⟨s, HI.out.log, HI.out.row, rfl, HI.out.alive, rfl⟩
            case rest =>
              obtain ⟨s1, hl1, ha1, hb1, hd1, hw1⟩ := hcut
              have hg1 : Good N s1.bs T := by rw [hb1]; exact HI.out.good
              obtain ⟨er, s', T', br, hR, hw', hcase⟩ := appR_out (b := st.B) hg1 hd1 hl1.log.disk.torn hl1.log.disk.fuse.1 (by omega)
              have HAP := Lib.hid (hl1.append A' k1 c' st.B hk1 (by omega) (by omega) (hl1.arg hrd).1 (hl1.arg hrd).2 (by omega) _ hR)
              have HL1 := Lib.hid hl1; have HA1 := Lib.hid ha1; have HK1 := Lib.hid hk1; have HRDD := Lib.hid hrd; have HG1' := Lib.hid hg1
              have HTB := Lib.hid (show T.length ≤ 1000000 by omega)
              have HNQ := Lib.hid (fun lv6 (hq6 : ∀ q, Value.ownBlock lv6 = some q → lv'.ownBlock = some q ∨ wc.heap.size ≤ q) => (fun q h1 h2 => by
                rcases hq6 q h1 with h | h
                · exact HI.out.hne q h h2
                · have := (ha1.lt q h2).2
                  omega : ∀ q, Value.ownBlock lv6 = some q → (Value.slice aA T.length ac).ownBlock ≠ some q))
              have hc00 : wc.cell? ⟨bA, oA + j * 4, none⟩ = some (.slice A' k1 c') := by
                have e1 := (HI.out.log.fr.cell (p := ⟨bA, oA + j * 4, none⟩) (by obtain ⟨b2, o2, _, _, e2, hb2, _⟩ := HL.out j st hst; injection e2 with e2; injection e2 with e2; show bA < _; omega) (by simp))
                have e2 := (hl1.fr.cell (p := ⟨bA, oA + j * 4, none⟩) (by obtain ⟨b2, o2, _, _, e2, hb2, _⟩ := HL.out j st hst; injection e2 with e2; injection e2 with e2; show bA < _; omega) (by simp))
                rw [e2, ← e1]
                exact hc0
              have HCW := Lib.hid (fun W (f : Fr [] w W) => (show W.cell? ⟨bA, oA + j * 4, none⟩ = some (.slice A' k1 c') from ((f.cell (p := ⟨bA, oA + j * 4, none⟩) (by obtain ⟨b2, o2, _, _, e2, hb2, _⟩ := HL.out j st hst; injection e2 with e2; injection e2 with e2; show bA < _; omega) (by simp)).trans ((hl1.fr.cell (p := ⟨bA, oA + j * 4, none⟩) (by obtain ⟨b2, o2, _, _, e2, hb2, _⟩ := HL.out j st hst; injection e2 with e2; injection e2 with e2; show bA < _; omega) (by simp)).symm.trans hc00))))
              have HW1 := Lib.hid (show s'.writes ≤ 100 * (j + 1) by omega)
              have HSB := Lib.hid (show st.B.length ≤ 1000 from hst1)
              have HSTL := Lib.hid (show ∀ t ∈ T, t.length ≤ 1000000 from fun t ht => by have := hl1.log.hs t ht; omega)
              clear hc0 hc1 hc2 hc3 hcap hrd hng hst1 hR hw' hb1 hw1 hl1 ha1 hg1 hbw hk1
              rcases hcase with ⟨rfl, hs', rfl, rfl⟩ | ⟨rfl, hd', hG', rfl, rfl⟩ | ⟨rfl, hd', hG', hTT', rfl⟩
              · have HG1 := Lib.hid (show Good N s'.bs T' from hs' ▸ HG1'.out)
                have HDD := Lib.hid (show s'.dead = false from hs' ▸ hd1)
                clear hs' hd1
                go_wp2_with (first
                  | (go_at_call 21; (with_reducible refine HAP.out.mono ?_); rintro e w6 ⟨lv6, rfl, hl6, f6, hq6⟩; have HL6 := Lib.hid (show LS w w6 xx p g N N s' lv6 T' false D base from hl6); have HA6 := Lib.hid (HA1.out.app HL1.out HI.out.hne f6); have HQ6 := Lib.hid (HNQ.out lv6 hq6); have hc6 := HCW.out w6 HL6.out.fr; clear hl6 f6 hq6 HAP)
                  | (go_at_call 28; (with_reducible refine (dead_k w6 p g N N s' HL6.out.log.disk false HDD.out).mono ?_); rintro e w' ⟨rfl, rfl⟩))
                go_roundg (30 - (j + 1))
                case measure => omega
                case rel => exact ⟨j + 1, s', T', xx, lv6, D, base, by omega, by omega, rfl, rfl, by go_num, ⟨HL6.out, HA6.out, HI.out.hD, HQ6.out, HG1.out, HDD.out⟩, by omega, by have := HW1.out; omega⟩
              · have HG2 := Lib.hid hG'; have HDD := Lib.hid hd'
                clear hG' hd' hd1
                go_wp2_with (first
                  | (go_at_call 21; (with_reducible refine HAP.out.mono ?_); rintro e w6 ⟨lv6, rfl, hl6, f6, hq6⟩; have HL6 := Lib.hid (show LS w w6 xx p g N N s' lv6 (T ++ [st.B]) false D base from hl6); have HA6 := Lib.hid (HA1.out.app HL1.out HI.out.hne f6); have HQ6 := Lib.hid (HNQ.out lv6 hq6); have hc6 := HCW.out w6 HL6.out.fr; clear hl6 f6 hq6 HAP)
                  | (at_builtin; have f5 := (Fr.refl [] w6).alloc (.cells #[.slice A' k1 c'] 26); refine wpList_appA rfl (.tmp 72) (.tmp 78) 79 rfl rfl w (.slice aA T.length ac) T rfl (HA6.out.fr0 f5) st.B A' k1 c' w6.heap.size 1 HK1.out rfl (Blk.new w6 _ _) HRDD.out HTB.out ((HL6.out.fr.trans f5).size) ?_; intro va7 w7 ha7 f7 hq7; obtain ⟨D', hl7, hd7, hn7⟩ := (HL6.out.to f5).appA (HA6.out.fr0 f5) ha7 HI.out.hD HQ6.out f7 hq7; have HL7 := Lib.hid hl7; have HA7 := Lib.hid ha7; have HD7 := Lib.hid hd7; have HQ7 := Lib.hid hn7; clear hl7 ha7 hd7 hn7 f7 hq7)
                  | (go_at_call 28; (with_reducible refine (dead_k w7 p g N N s' HL7.out.log.disk false HDD.out).mono ?_); rintro e w' ⟨rfl, rfl⟩))
                go_roundg (30 - (j + 1))
                case measure => omega
                case rel => exact ⟨j + 1, s', T ++ [st.B], xx, lv6, D', base, by omega, by omega, rfl, rfl, by go_num, ⟨HL7.out, HA7.out, HD7.out, HQ7.out, HG2.out, HDD.out⟩, by rw [List.length_append]; simp; omega, by have := HW1.out; omega⟩
              · obtain rfl : T = T' := hTT'.symm
                have HDD := Lib.hid hd'
                obtain ⟨s2, hs2⟩ : ∃ s2 : Dk.DS, { s' with dead := false, fuse := -1 } = s2 := ⟨_, rfl⟩
                have HS2 := Lib.hid (show s2.bs = s'.bs ∧ s2.dead = false ∧ s2.writes = s'.writes from hs2 ▸ ⟨rfl, rfl, rfl⟩)
                have HWK := Lib.hid (fun W lvq (h : LS w W xx p g N N s' lvq T true D base) => (hs2 ▸ Dk.wake_calls W p g N N s' h.log.disk))
                clear hd' hd1 hs2
                rcases hG' with hG' | hG'
                · have HG2 := Lib.hid (show Good N s2.bs T from HS2.out.1 ▸ hG')
                  have HSL := Lib.hid (show ∀ t ∈ T, t.length ≤ 1000000 from HSTL.out)
                  have HMB := Lib.hid (show T.length ≤ 100000000 by have := HTB.out; omega)
                  clear hG'
                  go_upto_region 27 with (first
                    | go_big_skip
                    | (go_at_call 21; (with_reducible refine HAP.out.mono ?_); rintro e w6 ⟨lv6, rfl, hl6, f6, hq6⟩; have HL6 := Lib.hid (show LS w w6 xx p g N N s' lv6 T true D base from hl6); have HA6 := Lib.hid (HA1.out.app HL1.out HI.out.hne f6); clear hl6 f6 hq6 HAP)
                    | (go_at_call 28; (with_reducible refine (dead_k w6 p g N N s' HL6.out.log.disk true HDD.out).mono ?_); rintro e w' ⟨rfl, rfl⟩)
                    | (go_at_call 21; (with_reducible refine (broken_calls w6 xx p lv6 _ _ (lastR_length T) HL6.out.log.head _).mono ?_); rintro e w' ⟨rfl, rfl⟩)
                    | (go_at_call 29; (with_reducible refine (HWK.out w6 lv6 HL6.out).mono ?_); rintro e w7 ⟨rfl, hd7, f7⟩; have HDK7 := Lib.hid hd7; have HF7 := Lib.hid (HL6.out.fr.trans' f7 (fun q hq => .inr (by simp at hq; rcases hq with rfl | rfl; exact HP.out.1; exact HP.out.2))); have HA7 := Lib.hid (HA6.out.disk HL6.out.log.disk f7); have HAL7 := Lib.hid ((Dk.all_calls w7 p g N N s2 hd7).mono fun e w' h => OwnBytes.toN hd7.len h); clear hd7 f7)
                    | (go_at_call 27; (with_reducible refine HAL7.out.mono ?_); rintro e w8 ⟨Aw, cw, rfl, how, f8⟩; have HF8 := Lib.hid (HF7.out.trans f8); have HA8 := Lib.hid (HA7.out.fr0 f8); have HRW8 := Lib.hid (own_rn how); have HO8 := Lib.hid (openl_calls w w8 p g N N s2 T (HDK7.out.fr f8 (by simp) (by simp)) HS2.out.2.1 HG2.out (HF7.out.trans f8) HP.out.1 HP.out.2 (Value.slice aA T.length ac).ownBlock.toList (fun q hq => ((HA7.out.fr0 f8).lt q (by simpa using hq)).2)); clear how f8)
                    | (go_at_call 14; (with_reducible refine HO8.out.mono ?_); rintro e w9 ⟨y1, lvy, rfl, hy1, hl9, f9⟩; have HY9 := Lib.hid hl9; have HF9 := Lib.hid (HF8.out.trans f9); have HA9 := Lib.hid (HA8.out.fr0 f9); have HRW9 := Lib.hid (HRW8.out.fr f9 (by simp)); have HYB := Lib.hid (show ∀ q, lvy.ownBlock = some q → (Value.slice aA T.length ac).ownBlock ≠ some q from fun q hq h2 => by have h1 := (hl9.log.rows.lt q hq).1; have h3 := (HA8.out.lt q h2).2; omega); have HO9 := Lib.hid (openl_calls w w9 p g N N s2 T hl9.log.disk HS2.out.2.1 HG2.out (HF8.out.trans f9) HP.out.1 HP.out.2 [] (by simp)); clear hy1 hl9 f9 HO8)
                    | (go_at_call 14; (with_reducible refine HO9.out.mono ?_); rintro e w10 ⟨z1, lvz, rfl, _, hl10, f10⟩; have HZ10 := Lib.hid hl10; have HY10 := Lib.hid (HY9.out.to f10); have HF10 := Lib.hid (HF9.out.trans f10); have HA10 := Lib.hid (HA9.out.fr0 f10); have HRW10 := Lib.hid (HRW9.out.fr f10 (by simp)); clear hl10 f10 HO9))
                  have hS0 : OldW w10 w10.drew := (Fr.refl [] w10).drew
                  refine sqo_begin (w0 := w10) (by kernel_rfl) ?_
                  refine sqo_take (i := 0) (v := (.int .i64 0)) (d := 114) rfl (by kernel_rfl) (by kernel_rfl) (by kernel_rfl) (by kernel_rfl) (by kernel_rfl) (fun _ _ _ h => h) ?_ (by assumption) ?_
                  · intro w9 h9; kernel_rfl
                  try simp only [Act.put, List.setIfInBounds_toArray, List.set_cons_zero, List.set_cons_succ]
                  refine sqo_take (i := 1) (v := (.bool false)) (d := 115) rfl (by kernel_rfl) (by kernel_rfl) (by kernel_rfl) (by kernel_rfl) (by kernel_rfl) (fun _ _ _ h => h) ?_ (by assumption) ?_
                  · intro w9 h9; kernel_rfl
                  try simp only [Act.put, List.setIfInBounds_toArray, List.set_cons_zero, List.set_cons_succ]
                  refine sqo_take (i := 2) (v := (.bool false)) (d := 116) rfl (by kernel_rfl) (by kernel_rfl) (by kernel_rfl) (by kernel_rfl) (by kernel_rfl) (fun _ _ _ h => h) ?_ (by assumption) ?_
                  · intro w9 h9; kernel_rfl
                  try simp only [Act.put, List.setIfInBounds_toArray, List.set_cons_zero, List.set_cons_succ]
                  refine sqo_take (i := 3) (v := (.int .i64 0)) (d := 117) rfl (by kernel_rfl) (by kernel_rfl) (by kernel_rfl) (by kernel_rfl) (by kernel_rfl) (fun _ _ _ h => h) ?_ (by assumption) ?_
                  · intro w9 h9; kernel_rfl
                  try simp only [Act.put, List.setIfInBounds_toArray, List.set_cons_zero, List.set_cons_succ]
                  refine sqo_take (i := 4) (v := (.bool false)) (d := 118) rfl (by kernel_rfl) (by kernel_rfl) (by kernel_rfl) (by kernel_rfl) (by kernel_rfl) (fun _ _ _ h => h) ?_ (by assumption) ?_
                  · intro w9 h9; kernel_rfl
                  try simp only [Act.put, List.setIfInBounds_toArray, List.set_cons_zero, List.set_cons_succ]
                  refine sqo_take (i := 5) (v := (.bool false)) (d := 119) rfl (by kernel_rfl) (by kernel_rfl) (by kernel_rfl) (by kernel_rfl) (by kernel_rfl) (fun _ _ _ h => h) ?_ (by assumption) ?_
                  · intro w9 h9; kernel_rfl
                  try simp only [Act.put, List.setIfInBounds_toArray, List.set_cons_zero, List.set_cons_succ]
                  refine sqo_take (i := 6) (v := (.bool false)) (d := 120) rfl (by kernel_rfl) (by kernel_rfl) (by kernel_rfl) (by kernel_rfl) (by kernel_rfl) (fun _ _ _ h => h) ?_ (by assumption) ?_
                  · intro w9 h9; kernel_rfl
                  try simp only [Act.put, List.setIfInBounds_toArray, List.set_cons_zero, List.set_cons_succ]
                  refine sqo_take (i := 7) (v := (.pointer (some ⟨p, 0, none⟩))) (d := 121) rfl (by kernel_rfl) (by kernel_rfl) (by kernel_rfl) (by kernel_rfl) (by kernel_rfl) (fun _ _ _ h => h) ?_ (by assumption) ?_
                  · intro w9 h9; kernel_rfl
                  try simp only [Act.put, List.setIfInBounds_toArray, List.set_cons_zero, List.set_cons_succ]
                  refine sqo_take (i := 10) (v := (.slice Aw (64 * N) cw)) (d := 124) rfl (by kernel_rfl) (by kernel_rfl) (by kernel_rfl) (by kernel_rfl) (by kernel_rfl) (fun _ _ _ h => h) ?_ (by assumption) ?_
                  · intro w9 h9; kernel_rfl
                  try simp only [Act.put, List.setIfInBounds_toArray, List.set_cons_zero, List.set_cons_succ]
                  refine sqo_take (i := 11) (v := (.string (str s2.bs))) (d := 125) rfl (by kernel_rfl) (by kernel_rfl) (by kernel_rfl) (by kernel_rfl) (by kernel_rfl) (fun _ _ _ h => h) ?_ (by assumption) ?_
                  · intro w9 h9; exact exec_conv_n (c := cw) rfl Try.underlying26 Try.underlying5 Try.underlying9 HY10.out.log.disk.len (by kernel_rfl) (HRW10.out.fr h9 (by simp))
                  try simp only [Act.put, List.setIfInBounds_toArray, List.set_cons_zero, List.set_cons_succ]
                  refine sqo_only (i := 8) rfl (by kernel_rfl) (by kernel_rfl) ?_
                  have hr8 := fun (a₀ : Act) (o₀ : Oper) (K₀ : Act → World → Prop) (Q₀ : Exit → Act → World → Prop) => @sq_call Try.prog Q₀ a₀ o₀ w10.drew K₀ (OwnRN w10.drew (64 * N) s2.bs) 27 #[.pointer (some ⟨p, 0, none⟩)] 122
                  refine hr8 _ _ _ _ ?_ ?_ ?_ ?_
                  · kernel_rfl
                  · kernel_rfl
                  · exact ((Dk.all_calls w10.drew p g N N s2 (HY10.out.to (Fr.refl [] w10).drew).log.disk).mono fun e w' h => OwnBytes.toN HY10.out.log.disk.len h)
                  rintro e wa ⟨A8, c8, rfl, ho8, f8⟩
                  have hS1 := OldW.step hS0 f8
                  have HR8 := Lib.hid (own_rn ho8)
                  clear ho8 f8
                  refine ⟨_, rfl, hS1, ?_⟩
                  clear hr8
                  try simp only [Act.put, List.setIfInBounds_toArray, List.set_cons_zero, List.set_cons_succ]
                  refine sqo_only (i := 9) rfl (by kernel_rfl) (by kernel_rfl) ?_
                  have hr9 := fun (a₀ : Act) (o₀ : Oper) (K₀ : Act → World → Prop) (Q₀ : Exit → Act → World → Prop) => @sq_val Try.prog Q₀ a₀ o₀ wa K₀ (.string (str s2.bs)) wa 123
                  refine hr9 _ _ _ _ ?_ ?_ ?_
                  · kernel_rfl
                  · exact exec_conv_n (c := c8) rfl Try.underlying26 Try.underlying5 Try.underlying9 HY10.out.log.disk.len (by kernel_rfl) (HR8.out)
                  clear hr9
                  refine ⟨hS1, ?_⟩
                  try simp only [Act.put, List.setIfInBounds_toArray, List.set_cons_zero, List.set_cons_succ]
                  refine sqo_take (i := 12) (v := (.bool false)) (d := 126) rfl (by kernel_rfl) (by kernel_rfl) (by kernel_rfl) (by kernel_rfl) (by kernel_rfl) (fun _ _ _ h => h) ?_ (by assumption) ?_
                  · intro w9 h9; exact ex_neq_strW rfl (by kernel_rfl) (by kernel_rfl) (show (s2.bs == s2.bs) = !false from beq_self_eq_true _)
                  try simp only [Act.put, List.setIfInBounds_toArray, List.set_cons_zero, List.set_cons_succ]
                  refine sqo_take (i := 13) (v := (.bool false)) (d := 127) rfl (by kernel_rfl) (by kernel_rfl) (by kernel_rfl) (by kernel_rfl) (by kernel_rfl) (fun _ _ _ h => h) ?_ (by assumption) ?_
                  · intro w9 h9; kernel_rfl
                  try simp only [Act.put, List.setIfInBounds_toArray, List.set_cons_zero, List.set_cons_succ]
                  refine sqo_take (i := 14) (v := (.bool false)) (d := 128) rfl (by kernel_rfl) (by kernel_rfl) (by kernel_rfl) (by kernel_rfl) (by kernel_rfl) (fun _ _ _ h => h) ?_ (by assumption) ?_
                  · intro w9 h9; kernel_rfl
                  try simp only [Act.put, List.setIfInBounds_toArray, List.set_cons_zero, List.set_cons_succ]
                  refine sqo_take (i := 15) (v := (.pointer (some ⟨y1, 0, none⟩))) (d := 129) rfl (by kernel_rfl) (by kernel_rfl) (by kernel_rfl) (by kernel_rfl) (by kernel_rfl) (fun _ _ _ h => h) ?_ (by assumption) ?_
                  · intro w9 h9; kernel_rfl
                  try simp only [Act.put, List.setIfInBounds_toArray, List.set_cons_zero, List.set_cons_succ]
                  refine sqo_take (i := 17) (v := (.pointer (some ⟨z1, 0, none⟩))) (d := 131) rfl (by kernel_rfl) (by kernel_rfl) (by kernel_rfl) (by kernel_rfl) (by kernel_rfl) (fun _ _ _ h => h) ?_ (by assumption) ?_
                  · intro w9 h9; kernel_rfl
                  try simp only [Act.put, List.setIfInBounds_toArray, List.set_cons_zero, List.set_cons_succ]
                  refine sqo_only (i := 16) rfl (by kernel_rfl) (by kernel_rfl) ?_
                  have hr16 := fun (a₀ : Act) (o₀ : Oper) (K₀ : Act → World → Prop) (Q₀ : Exit → Act → World → Prop) => @sq_call Try.prog Q₀ a₀ o₀ wa K₀ (fun e w' => ∃ A c, e = .returned (.slice A T.length c) ∧ TxRow w' (.slice A T.length c) [] wa.heap.size T ∧ Fr [] wa w') 17 #[.pointer (some ⟨y1, 0, none⟩)] 130
                  refine hr16 _ _ _ _ ?_ ?_ ?_ ?_
                  · kernel_rfl
                  · kernel_rfl
                  · exact (rec_calls wa y1 p g N N s2 lvy T _ _ _ _ (HY10.out.to hS1).log [] (by simp))
                  rintro e wb ⟨GA1, gc1, rfl, ht1, f8⟩
                  have hS2 := OldW.step hS1 f8
                  have HT1 := Lib.hid ht1
                  clear ht1 f8
                  refine ⟨_, rfl, hS2, ?_⟩
                  clear hr16
                  try simp only [Act.put, List.setIfInBounds_toArray, List.set_cons_zero, List.set_cons_succ]
                  refine sqo_only (i := 18) rfl (by kernel_rfl) (by kernel_rfl) ?_
                  have hr18 := fun (a₀ : Act) (o₀ : Oper) (K₀ : Act → World → Prop) (Q₀ : Exit → Act → World → Prop) => @sq_call Try.prog Q₀ a₀ o₀ wb K₀ (fun e w' => ∃ A c, e = .returned (.slice A T.length c) ∧ TxRow w' (.slice A T.length c) [] wb.heap.size T ∧ Fr [] wb w') 17 #[.pointer (some ⟨z1, 0, none⟩)] 132
                  refine hr18 _ _ _ _ ?_ ?_ ?_ ?_
                  · kernel_rfl
                  · kernel_rfl
                  · exact (rec_calls wb z1 p g N N s2 lvz T _ _ _ _ (HZ10.out.to hS2).log [] (by simp))
                  rintro e wc1 ⟨GA2, gc2, rfl, ht2, f8⟩
                  have hS3 := OldW.step hS2 f8
                  have HT2 := Lib.hid ht2
                  have HT1c := Lib.hid (HT1.out.frD f8)
                  clear ht2 f8
                  refine ⟨_, rfl, hS3, ?_⟩
                  clear hr18
                  try simp only [Act.put, List.setIfInBounds_toArray, List.set_cons_zero, List.set_cons_succ]
                  refine sqo_only (i := 19) rfl (by kernel_rfl) (by kernel_rfl) ?_
                  have hr19 := fun (a₀ : Act) (o₀ : Oper) (K₀ : Act → World → Prop) (Q₀ : Exit → Act → World → Prop) => @sq_call Try.prog Q₀ a₀ o₀ wc1 K₀ (Agg (.bool true) wc1) 16 #[.slice GA1 T.length gc1, .slice GA2 T.length gc2] 133
                  refine hr19 _ _ _ _ ?_ ?_ ?_ ?_
                  · kernel_rfl
                  · kernel_rfl
                  · exact (same_self wc1 GA1 T.length gc1 T rfl HT1c.out.inA GA2 T.length gc2 T rfl HT2.out.inA HMB.out rfl)
                  rintro e w12 ⟨rfl, f8⟩
                  have hS4 := OldW.step hS3 f8
                  clear f8
                  refine ⟨_, rfl, hS4, ?_⟩
                  clear hr19
                  try simp only [Act.put, List.setIfInBounds_toArray, List.set_cons_zero, List.set_cons_succ]
                  refine sqo_take (i := 20) (v := (.bool false)) (d := 134) rfl (by kernel_rfl) (by kernel_rfl) (by kernel_rfl) (by kernel_rfl) (by kernel_rfl) (fun _ _ _ h => h) ?_ (by assumption) ?_
                  · intro w9 h9; kernel_rfl
                  try simp only [Act.put, List.setIfInBounds_toArray, List.set_cons_zero, List.set_cons_succ]
                  refine sqo_take (i := 21) (v := (.bool false)) (d := 135) rfl (by kernel_rfl) (by kernel_rfl) (by kernel_rfl) (by kernel_rfl) (by kernel_rfl) (fun _ _ _ h => h) ?_ (by assumption) ?_
                  · intro w9 h9; kernel_rfl
                  try simp only [Act.put, List.setIfInBounds_toArray, List.set_cons_zero, List.set_cons_succ]
                  refine wpAnyH_done (by kernel_rfl) ?_ _
                  have HF12 := Lib.hid (HF10.out.trans hS4)
                  have HY12 := Lib.hid (HY10.out.to hS4)
                  have HA12 := Lib.hid (HA10.out.fr0 hS4)
                  have HDQ := Lib.hid (show ∀ q, (Value.slice aA T.length ac).ownBlock = some q → q ∈ y1 :: p :: g :: (Value.slice aA T.length ac).ownBlock.toList from fun q hq => by simp [hq])
                  clear hS0 hS1 hS2 hS3 hS4
                  have hcmp : ((T.length : Int) == (T.length : Int) + 1) = false := by rw [beq_eq_false_iff_ne]; omega
                  have HRC12 := Lib.hid (rec_calls w12 y1 p g N N s2 lvy T _ _ _ _ HY12.out.log [] (by simp))
                  go_wp2_with (first
                    | go_big_skip
                    | (go_at_call 17; (with_reducible refine HRC12.out.mono ?_); rintro e w13 ⟨GA, gc, rfl, ht13, f13⟩; have HTG := Lib.hid ht13; have HFG := Lib.hid (HF12.out.trans f13); have HYG := Lib.hid (HY12.out.to f13); have HAG := Lib.hid (HA12.out.fr0 f13); obtain ⟨aI, aJ, hav, hain⟩ := HAG.out.toIn HFG.out; injection hav with hav1 _ hav2; subst hav1 hav2; have HIN := Lib.hid hain; clear hain; clear ht13 f13)
                    | (go_at_call 16; (with_reducible refine (same_self w13 _ T.length _ T rfl HTG.out.inA _ T.length _ T rfl HIN.out HMB.out rfl).mono ?_); rintro e w14 ⟨rfl, f14⟩; have HF14 := Lib.hid (HFG.out.trans f14); have HYL := Lib.hid (HYG.out.to f14); have HIN14 := Lib.hid (HIN.out.fr f14); have HAL14 := Lib.hid (HAG.out.fr0 f14); clear f14)
                    | (go_at_call 18; (with_reducible refine (last_calls w14 y1 p lvy _ _ _ (lastR_length _) HYL.out.log.head).mono ?_); rintro e w15 ⟨rfl, f15⟩; have HYM := Lib.hid (HYL.out.to f15); have HIN15 := Lib.hid (HIN14.out.fr f15); have HAL15 := Lib.hid (HAL14.out.fr0 f15); clear f15)
                    | (go_at_call 19; (with_reducible refine (last08_calls w15 _ T.length _ T rfl HIN15.out HMB.out HSL.out).mono ?_); rintro e w16 ⟨rfl, f16⟩; have HYN := Lib.hid (HYM.out.to f16); have HAL16 := Lib.hid (HAL15.out.fr0 f16); clear f16)
                    | (refine wpList_wanted (v := .bool false) (by kernel_rfl) (ex_neq_same (x := .tmp 158) (y := .tmp 160) _ rfl (lastR T) rfl rfl (lastR_length _)) ?_))
                  go_roundg (30 - (j + 1))
                  case measure => omega
                  case rel => exact ⟨j + 1, s2, T, y1, lvy, _, _, by omega, by omega, rfl, rfl, by go_num, ⟨HYN.out, HAL16.out, HDQ.out, HYB.out, HG2.out, HS2.out.2.1⟩, by omega, by have h1 := HW1.out; have h2 := HS2.out.2.2; omega⟩
                · obtain ⟨TT, hTT⟩ : ∃ TT, T ++ [st.B] = TT := ⟨_, rfl⟩
                  rw [hTT] at hG'
                  obtain ⟨M, hM⟩ : ∃ M, TT.length = M := ⟨_, rfl⟩
                  have hM1 : M = T.length + 1 := by rw [← hM, ← hTT]; simp
                  have HG2 := Lib.hid (show Good N s2.bs TT from HS2.out.1 ▸ hG')
                  have HSL := Lib.hid (show ∀ t ∈ TT, t.length ≤ 1000000 from fun t ht => by
                    rw [← hTT] at ht
                    rcases List.mem_append.1 ht with ht | ht
                    · exact HSTL.out t ht
                    · have := HSB.out
                      simp at ht
                      subst ht
                      omega)
                  have HMB := Lib.hid (show M ≤ 100000000 by have := HTB.out; omega)
                  have HM := Lib.hid hM; have HM1 := Lib.hid hM1; have HTT := Lib.hid hTT
                  clear hG' hTT hM hM1
                  go_upto_region 27 with (first
                    | go_big_skip
                    | (go_at_call 21; (with_reducible refine HAP.out.mono ?_); rintro e w6 ⟨lv6, rfl, hl6, f6, hq6⟩; have HL6 := Lib.hid (show LS w w6 xx p g N N s' lv6 T true D base from hl6); have HA6 := Lib.hid (HA1.out.app HL1.out HI.out.hne f6); clear hl6 f6 hq6 HAP)
                    | (go_at_call 28; (with_reducible refine (dead_k w6 p g N N s' HL6.out.log.disk true HDD.out).mono ?_); rintro e w' ⟨rfl, rfl⟩)
                    | (go_at_call 21; (with_reducible refine (broken_calls w6 xx p lv6 _ _ (lastR_length T) HL6.out.log.head _).mono ?_); rintro e w' ⟨rfl, rfl⟩)
                    | (go_at_call 29; (with_reducible refine (HWK.out w6 lv6 HL6.out).mono ?_); rintro e w7 ⟨rfl, hd7, f7⟩; have HDK7 := Lib.hid hd7; have HF7 := Lib.hid (HL6.out.fr.trans' f7 (fun q hq => .inr (by simp at hq; rcases hq with rfl | rfl; exact HP.out.1; exact HP.out.2))); have HA7 := Lib.hid (HA6.out.disk HL6.out.log.disk f7); have HAL7 := Lib.hid ((Dk.all_calls w7 p g N N s2 hd7).mono fun e w' h => OwnBytes.toN hd7.len h); clear hd7 f7)
                    | (go_at_call 27; (with_reducible refine HAL7.out.mono ?_); rintro e w8 ⟨Aw, cw, rfl, how, f8⟩; have HF8 := Lib.hid (HF7.out.trans f8); have HA8 := Lib.hid (HA7.out.fr0 f8); have HRW8 := Lib.hid (own_rn how); have HO8 := Lib.hid (openl_calls w w8 p g N N s2 TT (HDK7.out.fr f8 (by simp) (by simp)) HS2.out.2.1 HG2.out (HF7.out.trans f8) HP.out.1 HP.out.2 (Value.slice aA T.length ac).ownBlock.toList (fun q hq => ((HA7.out.fr0 f8).lt q (by simpa using hq)).2)); clear how f8)
                    | (go_at_call 14; (with_reducible refine HO8.out.mono ?_); rintro e w9 ⟨y1, lvy, rfl, hy1, hl9, f9⟩; have HY9 := Lib.hid hl9; have HF9 := Lib.hid (HF8.out.trans f9); have HA9 := Lib.hid (HA8.out.fr0 f9); have HRW9 := Lib.hid (HRW8.out.fr f9 (by simp)); have HYB := Lib.hid (show ∀ q, lvy.ownBlock = some q → (Value.slice aA T.length ac).ownBlock ≠ some q from fun q hq h2 => by have h1 := (hl9.log.rows.lt q hq).1; have h3 := (HA8.out.lt q h2).2; omega); have HO9 := Lib.hid (openl_calls w w9 p g N N s2 TT hl9.log.disk HS2.out.2.1 HG2.out (HF8.out.trans f9) HP.out.1 HP.out.2 [] (by simp)); clear hy1 hl9 f9 HO8)
                    | (go_at_call 14; (with_reducible refine HO9.out.mono ?_); rintro e w10 ⟨z1, lvz, rfl, _, hl10, f10⟩; have HZ10 := Lib.hid hl10; have HY10 := Lib.hid (HY9.out.to f10); have HF10 := Lib.hid (HF9.out.trans f10); have HA10 := Lib.hid (HA9.out.fr0 f10); have HRW10 := Lib.hid (HRW9.out.fr f10 (by simp)); clear hl10 f10 HO9))
                  have hS0 : OldW w10 w10.drew := (Fr.refl [] w10).drew
                  refine sqo_begin (w0 := w10) (by kernel_rfl) ?_
                  refine sqo_take (i := 0) (v := (.int .i64 0)) (d := 114) rfl (by kernel_rfl) (by kernel_rfl) (by kernel_rfl) (by kernel_rfl) (by kernel_rfl) (fun _ _ _ h => h) ?_ (by assumption) ?_
                  · intro w9 h9; kernel_rfl
                  try simp only [Act.put, List.setIfInBounds_toArray, List.set_cons_zero, List.set_cons_succ]
                  refine sqo_take (i := 1) (v := (.bool false)) (d := 115) rfl (by kernel_rfl) (by kernel_rfl) (by kernel_rfl) (by kernel_rfl) (by kernel_rfl) (fun _ _ _ h => h) ?_ (by assumption) ?_
                  · intro w9 h9; kernel_rfl
                  try simp only [Act.put, List.setIfInBounds_toArray, List.set_cons_zero, List.set_cons_succ]
                  refine sqo_take (i := 2) (v := (.bool false)) (d := 116) rfl (by kernel_rfl) (by kernel_rfl) (by kernel_rfl) (by kernel_rfl) (by kernel_rfl) (fun _ _ _ h => h) ?_ (by assumption) ?_
                  · intro w9 h9; kernel_rfl
                  try simp only [Act.put, List.setIfInBounds_toArray, List.set_cons_zero, List.set_cons_succ]
                  refine sqo_take (i := 3) (v := (.int .i64 0)) (d := 117) rfl (by kernel_rfl) (by kernel_rfl) (by kernel_rfl) (by kernel_rfl) (by kernel_rfl) (fun _ _ _ h => h) ?_ (by assumption) ?_
                  · intro w9 h9; kernel_rfl
                  try simp only [Act.put, List.setIfInBounds_toArray, List.set_cons_zero, List.set_cons_succ]
                  refine sqo_take (i := 4) (v := (.bool false)) (d := 118) rfl (by kernel_rfl) (by kernel_rfl) (by kernel_rfl) (by kernel_rfl) (by kernel_rfl) (fun _ _ _ h => h) ?_ (by assumption) ?_
                  · intro w9 h9; kernel_rfl
                  try simp only [Act.put, List.setIfInBounds_toArray, List.set_cons_zero, List.set_cons_succ]
                  refine sqo_take (i := 5) (v := (.bool false)) (d := 119) rfl (by kernel_rfl) (by kernel_rfl) (by kernel_rfl) (by kernel_rfl) (by kernel_rfl) (fun _ _ _ h => h) ?_ (by assumption) ?_
                  · intro w9 h9; kernel_rfl
                  try simp only [Act.put, List.setIfInBounds_toArray, List.set_cons_zero, List.set_cons_succ]
                  refine sqo_take (i := 6) (v := (.bool false)) (d := 120) rfl (by kernel_rfl) (by kernel_rfl) (by kernel_rfl) (by kernel_rfl) (by kernel_rfl) (fun _ _ _ h => h) ?_ (by assumption) ?_
                  · intro w9 h9; kernel_rfl
                  try simp only [Act.put, List.setIfInBounds_toArray, List.set_cons_zero, List.set_cons_succ]
                  refine sqo_take (i := 7) (v := (.pointer (some ⟨p, 0, none⟩))) (d := 121) rfl (by kernel_rfl) (by kernel_rfl) (by kernel_rfl) (by kernel_rfl) (by kernel_rfl) (fun _ _ _ h => h) ?_ (by assumption) ?_
                  · intro w9 h9; kernel_rfl
                  try simp only [Act.put, List.setIfInBounds_toArray, List.set_cons_zero, List.set_cons_succ]
                  refine sqo_take (i := 10) (v := (.slice Aw (64 * N) cw)) (d := 124) rfl (by kernel_rfl) (by kernel_rfl) (by kernel_rfl) (by kernel_rfl) (by kernel_rfl) (fun _ _ _ h => h) ?_ (by assumption) ?_
                  · intro w9 h9; kernel_rfl
                  try simp only [Act.put, List.setIfInBounds_toArray, List.set_cons_zero, List.set_cons_succ]
                  refine sqo_take (i := 11) (v := (.string (str s2.bs))) (d := 125) rfl (by kernel_rfl) (by kernel_rfl) (by kernel_rfl) (by kernel_rfl) (by kernel_rfl) (fun _ _ _ h => h) ?_ (by assumption) ?_
                  · intro w9 h9; exact exec_conv_n (c := cw) rfl Try.underlying26 Try.underlying5 Try.underlying9 HY10.out.log.disk.len (by kernel_rfl) (HRW10.out.fr h9 (by simp))
                  try simp only [Act.put, List.setIfInBounds_toArray, List.set_cons_zero, List.set_cons_succ]
                  refine sqo_only (i := 8) rfl (by kernel_rfl) (by kernel_rfl) ?_
                  have hr8 := fun (a₀ : Act) (o₀ : Oper) (K₀ : Act → World → Prop) (Q₀ : Exit → Act → World → Prop) => @sq_call Try.prog Q₀ a₀ o₀ w10.drew K₀ (OwnRN w10.drew (64 * N) s2.bs) 27 #[.pointer (some ⟨p, 0, none⟩)] 122
                  refine hr8 _ _ _ _ ?_ ?_ ?_ ?_
                  · kernel_rfl
                  · kernel_rfl
                  · exact ((Dk.all_calls w10.drew p g N N s2 (HY10.out.to (Fr.refl [] w10).drew).log.disk).mono fun e w' h => OwnBytes.toN HY10.out.log.disk.len h)
                  rintro e wa ⟨A8, c8, rfl, ho8, f8⟩
                  have hS1 := OldW.step hS0 f8
                  have HR8 := Lib.hid (own_rn ho8)
                  clear ho8 f8
                  refine ⟨_, rfl, hS1, ?_⟩
                  clear hr8
                  try simp only [Act.put, List.setIfInBounds_toArray, List.set_cons_zero, List.set_cons_succ]
                  refine sqo_only (i := 9) rfl (by kernel_rfl) (by kernel_rfl) ?_
                  have hr9 := fun (a₀ : Act) (o₀ : Oper) (K₀ : Act → World → Prop) (Q₀ : Exit → Act → World → Prop) => @sq_val Try.prog Q₀ a₀ o₀ wa K₀ (.string (str s2.bs)) wa 123
                  refine hr9 _ _ _ _ ?_ ?_ ?_
                  · kernel_rfl
                  · exact exec_conv_n (c := c8) rfl Try.underlying26 Try.underlying5 Try.underlying9 HY10.out.log.disk.len (by kernel_rfl) (HR8.out)
                  clear hr9
                  refine ⟨hS1, ?_⟩
                  try simp only [Act.put, List.setIfInBounds_toArray, List.set_cons_zero, List.set_cons_succ]
                  refine sqo_take (i := 12) (v := (.bool false)) (d := 126) rfl (by kernel_rfl) (by kernel_rfl) (by kernel_rfl) (by kernel_rfl) (by kernel_rfl) (fun _ _ _ h => h) ?_ (by assumption) ?_
                  · intro w9 h9; exact ex_neq_strW rfl (by kernel_rfl) (by kernel_rfl) (show (s2.bs == s2.bs) = !false from beq_self_eq_true _)
                  try simp only [Act.put, List.setIfInBounds_toArray, List.set_cons_zero, List.set_cons_succ]
                  refine sqo_take (i := 13) (v := (.bool false)) (d := 127) rfl (by kernel_rfl) (by kernel_rfl) (by kernel_rfl) (by kernel_rfl) (by kernel_rfl) (fun _ _ _ h => h) ?_ (by assumption) ?_
                  · intro w9 h9; kernel_rfl
                  try simp only [Act.put, List.setIfInBounds_toArray, List.set_cons_zero, List.set_cons_succ]
                  refine sqo_take (i := 14) (v := (.bool false)) (d := 128) rfl (by kernel_rfl) (by kernel_rfl) (by kernel_rfl) (by kernel_rfl) (by kernel_rfl) (fun _ _ _ h => h) ?_ (by assumption) ?_
                  · intro w9 h9; kernel_rfl
                  try simp only [Act.put, List.setIfInBounds_toArray, List.set_cons_zero, List.set_cons_succ]
                  refine sqo_take (i := 15) (v := (.pointer (some ⟨y1, 0, none⟩))) (d := 129) rfl (by kernel_rfl) (by kernel_rfl) (by kernel_rfl) (by kernel_rfl) (by kernel_rfl) (fun _ _ _ h => h) ?_ (by assumption) ?_
                  · intro w9 h9; kernel_rfl
                  try simp only [Act.put, List.setIfInBounds_toArray, List.set_cons_zero, List.set_cons_succ]
                  refine sqo_take (i := 17) (v := (.pointer (some ⟨z1, 0, none⟩))) (d := 131) rfl (by kernel_rfl) (by kernel_rfl) (by kernel_rfl) (by kernel_rfl) (by kernel_rfl) (fun _ _ _ h => h) ?_ (by assumption) ?_
                  · intro w9 h9; kernel_rfl
                  try simp only [Act.put, List.setIfInBounds_toArray, List.set_cons_zero, List.set_cons_succ]
                  refine sqo_only (i := 16) rfl (by kernel_rfl) (by kernel_rfl) ?_
                  have hr16 := fun (a₀ : Act) (o₀ : Oper) (K₀ : Act → World → Prop) (Q₀ : Exit → Act → World → Prop) => @sq_call Try.prog Q₀ a₀ o₀ wa K₀ (fun e w' => ∃ A c, e = .returned (.slice A M c) ∧ TxRow w' (.slice A M c) [] wa.heap.size TT ∧ Fr [] wa w') 17 #[.pointer (some ⟨y1, 0, none⟩)] 130
                  refine hr16 _ _ _ _ ?_ ?_ ?_ ?_
                  · kernel_rfl
                  · kernel_rfl
                  · exact (HM.out ▸ rec_calls wa y1 p g N N s2 lvy TT _ _ _ _ (HY10.out.to hS1).log [] (by simp))
                  rintro e wb ⟨GA1, gc1, rfl, ht1, f8⟩
                  have hS2 := OldW.step hS1 f8
                  have HT1 := Lib.hid ht1
                  clear ht1 f8
                  refine ⟨_, rfl, hS2, ?_⟩
                  clear hr16
                  try simp only [Act.put, List.setIfInBounds_toArray, List.set_cons_zero, List.set_cons_succ]
                  refine sqo_only (i := 18) rfl (by kernel_rfl) (by kernel_rfl) ?_
                  have hr18 := fun (a₀ : Act) (o₀ : Oper) (K₀ : Act → World → Prop) (Q₀ : Exit → Act → World → Prop) => @sq_call Try.prog Q₀ a₀ o₀ wb K₀ (fun e w' => ∃ A c, e = .returned (.slice A M c) ∧ TxRow w' (.slice A M c) [] wb.heap.size TT ∧ Fr [] wb w') 17 #[.pointer (some ⟨z1, 0, none⟩)] 132
                  refine hr18 _ _ _ _ ?_ ?_ ?_ ?_
                  · kernel_rfl
                  · kernel_rfl
                  · exact (HM.out ▸ rec_calls wb z1 p g N N s2 lvz TT _ _ _ _ (HZ10.out.to hS2).log [] (by simp))
                  rintro e wc1 ⟨GA2, gc2, rfl, ht2, f8⟩
                  have hS3 := OldW.step hS2 f8
                  have HT2 := Lib.hid ht2
                  have HT1c := Lib.hid (HT1.out.frD f8)
                  clear ht2 f8
                  refine ⟨_, rfl, hS3, ?_⟩
                  clear hr18
                  try simp only [Act.put, List.setIfInBounds_toArray, List.set_cons_zero, List.set_cons_succ]
                  refine sqo_only (i := 19) rfl (by kernel_rfl) (by kernel_rfl) ?_
                  have hr19 := fun (a₀ : Act) (o₀ : Oper) (K₀ : Act → World → Prop) (Q₀ : Exit → Act → World → Prop) => @sq_call Try.prog Q₀ a₀ o₀ wc1 K₀ (Agg (.bool true) wc1) 16 #[.slice GA1 M gc1, .slice GA2 M gc2] 133
                  refine hr19 _ _ _ _ ?_ ?_ ?_ ?_
                  · kernel_rfl
                  · kernel_rfl
                  · exact (same_self wc1 GA1 M gc1 TT HM.out HT1c.out.inA GA2 M gc2 TT HM.out HT2.out.inA HMB.out rfl)
                  rintro e w12 ⟨rfl, f8⟩
                  have hS4 := OldW.step hS3 f8
                  clear f8
                  refine ⟨_, rfl, hS4, ?_⟩
                  clear hr19
                  try simp only [Act.put, List.setIfInBounds_toArray, List.set_cons_zero, List.set_cons_succ]
                  refine sqo_take (i := 20) (v := (.bool false)) (d := 134) rfl (by kernel_rfl) (by kernel_rfl) (by kernel_rfl) (by kernel_rfl) (by kernel_rfl) (fun _ _ _ h => h) ?_ (by assumption) ?_
                  · intro w9 h9; kernel_rfl
                  try simp only [Act.put, List.setIfInBounds_toArray, List.set_cons_zero, List.set_cons_succ]
                  refine sqo_take (i := 21) (v := (.bool false)) (d := 135) rfl (by kernel_rfl) (by kernel_rfl) (by kernel_rfl) (by kernel_rfl) (by kernel_rfl) (fun _ _ _ h => h) ?_ (by assumption) ?_
                  · intro w9 h9; kernel_rfl
                  try simp only [Act.put, List.setIfInBounds_toArray, List.set_cons_zero, List.set_cons_succ]
                  refine wpAnyH_done (by kernel_rfl) ?_ _
                  have HF12 := Lib.hid (HF10.out.trans hS4)
                  have HY12 := Lib.hid (HY10.out.to hS4)
                  have HA12 := Lib.hid (HA10.out.fr0 hS4)
                  have HDQ := Lib.hid (show ∀ q, (Value.slice aA T.length ac).ownBlock = some q → q ∈ y1 :: p :: g :: (Value.slice aA T.length ac).ownBlock.toList from fun q hq => by simp [hq])
                  clear hS0 hS1 hS2 hS3 hS4
                  have hcmp : ((M : Int) == (T.length : Int) + 1) = true := by have := HM1.out; rw [beq_iff_eq]; omega
                  have HRC12 := Lib.hid (HM.out ▸ rec_calls w12 y1 p g N N s2 lvy TT _ _ _ _ HY12.out.log (Value.slice aA T.length ac).ownBlock.toList (fun q hq => (HA12.out.lt q (by simpa using hq)).2))
                  go_wp2_with (first
                    | go_big_skip
                    | (go_at_call 17; (with_reducible refine HRC12.out.mono ?_); rintro e w13 ⟨GA, gc, rfl, ht13, f13⟩; have HTG := Lib.hid ht13; have HFG := Lib.hid (HF12.out.trans f13); have HYG := Lib.hid (HY12.out.to f13); have HAG := Lib.hid (HA12.out.fr0 f13); have hc13 := HCW.out w13 HFG.out; clear ht13 f13)
                    | (at_builtin; have f5 := (Fr.refl [] w13).alloc (.cells #[.slice A' k1 c'] 26); refine wpList_appA rfl (.tmp 144) (.tmp 150) 151 rfl rfl w (.slice aA T.length ac) T rfl (HAG.out.fr0 f5) st.B A' k1 c' w13.heap.size 1 HK1.out rfl (Blk.new w13 _ _) HRDD.out HTB.out (HFG.out.trans f5).size ?_; intro va7 w17 ha7 f7 hq7; obtain ⟨D', hl7, hd7, hn7⟩ := (HYG.out.to f5).appA (HAG.out.fr0 f5) ha7 HDQ.out HYB.out f7 hq7; rw [HTT.out] at ha7; obtain ⟨bB, bc, rfl, hbin⟩ := ha7.toIn hl7.fr; rw [HM.out] at ha7 hd7 hn7; rw [HM.out]; have HTG7 := Lib.hid ((HTG.out.frD f5).fr f7 (fun q hq => .inl hq) (fun q h1 hm => by have h2 := (HTG.out.lt q h1).1; have h3 := (HA12.out.lt q (by simpa using hm)).2; omega)); have HTG := HTG7; have HYG := Lib.hid hl7; have HFG := Lib.hid hl7.fr; have HIN := Lib.hid hbin; have HAR := Lib.hid ha7; have HDR := Lib.hid hd7; have HNR := Lib.hid hn7; clear hl7 ha7 hd7 hn7 f7 hq7 hbin f5)
                    | (go_at_call 16; (with_reducible refine (same_self w17 _ M _ TT HM.out HTG.out.inA _ M _ TT HM.out HIN.out HMB.out rfl).mono ?_); rintro e w14 ⟨rfl, f14⟩; have HF14 := Lib.hid (HFG.out.trans f14); have HYL := Lib.hid (HYG.out.to f14); have HIN14 := Lib.hid (HIN.out.fr f14); have HAL14 := Lib.hid (HAR.out.fr0 f14); clear f14)
                    | (go_at_call 18; (with_reducible refine (last_calls w14 y1 p lvy _ _ _ (lastR_length _) HYL.out.log.head).mono ?_); rintro e w15 ⟨rfl, f15⟩; have HYM := Lib.hid (HYL.out.to f15); have HIN15 := Lib.hid (HIN14.out.fr f15); have HAL15 := Lib.hid (HAL14.out.fr0 f15); clear f15)
                    | (go_at_call 19; (with_reducible refine (last08_calls w15 _ M _ TT HM.out HIN15.out HMB.out HSL.out).mono ?_); rintro e w16 ⟨rfl, f16⟩; have HYN := Lib.hid (HYM.out.to f16); have HAL16 := Lib.hid (HAL15.out.fr0 f16); clear f16)
                    | (refine wpList_wanted (v := .bool false) (by kernel_rfl) (ex_neq_same (x := .tmp 158) (y := .tmp 160) _ rfl (lastR TT) rfl rfl (lastR_length _)) ?_))
                  go_roundg (30 - (j + 1))
                  case measure => omega
                  case rel => exact ⟨j + 1, s2, TT, y1, lvy, _, _, by omega, by omega, rfl, rfl, by go_num, ⟨HYN.out, HAL16.out, HDR.out, HNR.out, HG2.out, HS2.out.2.1⟩, by have := HM.out; have := HM1.out; omega, by have h1 := HW1.out; have h2 := HS2.out.2.2; omega⟩
          · have hI : (j : Int) < (n : Int) ∧ (30 : Int) ≤ (j : Int) := by omega
            go_wp2_with go_big_skip
            go_meet
            exact ⟨s, T, xx, lv', D, base, rfl, HI.out⟩
        · have hI : (n : Int) ≤ (j : Int) := by omega
          go_wp2_with go_big_skip
          go_meet
          exact ⟨s, T, xx, lv', D, base, rfl, HI.out⟩
    case rest =>
      obtain ⟨s, T, xx, lv', D, base, rfl, hI⟩ := hcut
      have HI := Lib.hid hI
      obtain ⟨aA, ac, hav, hain⟩ := hI.row.toIn hI.log.fr
      subst hav
      have HIN := Lib.hid hain
      have HRC := Lib.hid (rec_calls wc xx p g N N s lv' T _ _ _ _ hI.log.log [] (by simp))
      have HTL := Lib.hid (show T.length ≤ 4096 by have := hI.log.log.hT; have := hI.log.log.hk; omega)
      clear hI hain
      go_wp2_with (first
        | (go_at_call 17; (with_reducible refine HRC.out.mono ?_); rintro e w8 ⟨RA, rc, rfl, ht8, f8⟩; have HT8 := Lib.hid ht8; have F8 := Lib.hid f8; clear ht8 f8)
        | (go_at_call 16; (with_reducible refine (same_self w8 _ _ _ T rfl HT8.out.inA _ _ _ T rfl (HIN.out.fr F8.out) (by have := HTL.out; omega) rfl).mono ?_); rintro e w9 ⟨rfl, f9⟩; have F9 := Lib.hid ((HI.out.log.fr.trans F8.out).trans f9); clear f9))
      go_ret
      exact ⟨rfl, F9.out⟩
end Go.Proofs.Ytmmjihkcofgmmaa

/- WalDies: for every byte and every list of steps the law returns true, and the arguments read behind the call as before; no condition. -/
namespace Go.Proofs.Ytmmjihkcofgmmaa.walDies
open Go.ChangeShapes Go.WideShapes Go.ChangeAt Go.RowKit
open Go.ChangeMaps (open_string shut_string)
set_option linter.unusedVariables false

theorem own : ownKnob Try.prog.godebug = none := by kernel_rfl
theorem laidOut : laidOutB Try.prog = true := by kernel_rfl


set_option maxRecDepth 100000 in
theorem opened {H : Type} {enc : TypeId × Value → H} (W : World) (base : Nat) (v0 v1 : Value) (d0 d1 : DataW H) (p0 p1 : List MemPlace)
    (vl0 : Value.okWide Try.prog W .any base 5 v0) (h0 : DataW.Trod enc Try.prog W 0 (fun _ => true) true 5 v0 d0 p0)
    (vl1 : Value.okWide Try.prog W .any base 45 v1) (h1 : DataW.Trod enc Try.prog W 0 (fun _ => true) true 45 v1 d1 p1) :
    Calls Try.prog 7 #[v0, v1] W fun e W' => e = .returned (.bool true) ∧ Below W.heap.size W W' := by
  obtain ⟨a, rfl, rfl, rfl, wa⟩ := open_int Try.underlying5 vl0 h0
  obtain ⟨y, rfl⟩ := byte_n wa
  obtain ⟨A, ca, l, rfl, hl, hA, hb⟩ := open_steps vl1 h1
  exact (dies_walk W y A _ ca l rfl hA hl hb).mono fun e W' ⟨he, hf⟩ => ⟨he, hf.below (Nat.le_refl _) (by simp)⟩

set_option maxRecDepth 100000 in
theorem lifted (os : Os) (started : os.Started) (H : Type) (enc : TypeId × Value → H) :
    ReturnsInHanded {} Try.checked os 7 .any (Rows.walDiesSpec.pre6 enc Try.prog Try.f7 Rows.walDiesRow.domain false) (Rows.walDiesSpec.post enc Try.prog Try.f7 false true false false) := by
  refine returnsInHanded_of_change (C := Try.checked) own started (by kernel_rfl) Try.func7
    (ChangeSpec.witness6 (enc := enc) (C := Try.checked) false ⟨#[], #[.int .u8 0, .slice none 0 0], []⟩ 8 (by kernel_rfl) (by kernel_rfl) (by kernel_rfl) (by kernel_rfl)) ?_
  intro W base args ds gs before hval0 hW hcnd _
  have hval : ∀ (j : Nat) t v, Try.f7.params[j]? = some t → args[j]? = some v → Value.okWide Try.prog W .any base t v := hval0
  have hW' := hW
  obtain ⟨p, q, hA0, hV, rfl, hfz, hnd⟩ := hW
  have hA : DataW.TrodAll enc Try.prog W 0 (fun _ => true) true Try.f7.params.toList args.toList ds p := hA0
  rw [Try.params7] at hA hval
  obtain ⟨v0, vs0, d0, ds0, p0, q0, hargs, rfl, rfl, h0, r0⟩ := trodAll_cons hA
  obtain ⟨v1, vs1, d1, ds1, p1, q1, rfl, rfl, rfl, h1, r1⟩ := trodAll_cons r0
  obtain ⟨rfl, rfl, rfl⟩ := trodAll_nil r1
  obtain rfl : args = #[v0, v1] := by cases args; simp_all
  obtain ⟨rfl, rfl⟩ := trodVars_none hV
  have lt0 : ∀ x ∈ p0, x.block < W.heap.size := by obtain ⟨m, hm⟩ := h0; exact DataW.trod_lt m _ _ _ hm
  have lt1 : ∀ x ∈ p1, x.block < W.heap.size := by obtain ⟨m, hm⟩ := h1; exact DataW.trod_lt m _ _ _ hm
  refine (opened W base v0 v1 d0 d1 p0 p1 (hval 0 5 v0 rfl rfl) h0 (hval 1 45 v1 rfl rfl) h1).mono fun e W' ⟨he, bel⟩ => ?_
  subst he
  exact ⟨_, rfl, _, _, _, [], _, [], hW', trodAll_mk1 (shut_bool Try.underlying4 _), (trodAll_cons_mk (Below.trod laidOut (by kernel_rfl) (of_decide_eq_true (by kernel_rfl)) h0 bel lt0) (trodAll_cons_mk (Below.trod laidOut (by kernel_rfl) (of_decide_eq_true (by kernel_rfl)) h1 bel lt1) trodAll_mk0)), rfl, bel.frame _, fun h => by cases h⟩

theorem over : Rows.walDiesRow.holds Try.pinned (OpenSpec.ofChange Rows.walDiesSpec) :=
  OpenClaim.holds_of_wide 7 Try.f7 rfl rfl rfl rfl rfl rfl rfl ⟨rfl, rfl, rfl, rfl, rfl⟩ rfl rfl rfl rfl rfl (by kernel_rfl) Try.func7 (by kernel_rfl)
    (of_decide_eq_true (by kernel_rfl)) (by unfold Func.isWrapper; first | (rw [if_pos (by decide +kernel)]; kernel_rfl) | (rw [if_neg (by decide +kernel)]; exact ⟨rfl, rfl⟩))
    (fun os started H enc _ => lifted os started H enc)

/-- THE STATEMENT. -/
theorem proved : Rows.WalDiesSaid := over
#print axioms proved
end Go.Proofs.Ytmmjihkcofgmmaa.walDies
