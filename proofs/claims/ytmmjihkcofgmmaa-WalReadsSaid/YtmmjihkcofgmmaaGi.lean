/- The texts WalS WalT of this seat, one behind another; what each says stands at its head. -/
import Derived.Test.YtmmjihkcofgmmaaGh
import Derived.Deep.CutRange
import Derived.Deep.DeepCutAuto
import Derived.Deep.CutBlock

/- The log: a record's sectors are written. -/
namespace Go.Proofs.Ytmmjihkcofgmmaa
open Go.RowKit
set_option linter.unusedVariables false

/-- writes in order, until one fails -/
def wrAll (n : Nat) : Dk.DS → List (Int × List UInt8) → Dk.DS × Int
  | s, [] => (s, 0)
  | s, (i, b) :: l => if (s.wr n i b).2 = 0 then wrAll n (s.wr n i b).1 l else s.wr n i b
theorem wrAll_ok {n : Nat} {s s' : Dk.DS} {i : Int} {b : List UInt8} {l : List (Int × List UInt8)} (h : s.wr n i b = (s', 0)) : wrAll n s ((i, b) :: l) = wrAll n s' l := by
  show (if (s.wr n i b).2 = 0 then wrAll n (s.wr n i b).1 l else s.wr n i b) = _
  rw [h, if_pos rfl]
theorem wrAll_bad {n : Nat} {s s' : Dk.DS} {i e : Int} {b : List UInt8} {l : List (Int × List UInt8)} (h : s.wr n i b = (s', e)) (he : e ≠ 0) : wrAll n s ((i, b) :: l) = (s', e) := by
  show (if (s.wr n i b).2 = 0 then wrAll n (s.wr n i b).1 l else s.wr n i b) = _
  rw [h, if_neg he]
theorem wrAll_one (n : Nat) (s : Dk.DS) (i : Int) (b : List UInt8) : wrAll n s [(i, b)] = s.wr n i b := by
  rcases hs : s.wr n i b with ⟨s', e⟩
  by_cases h : e = 0
  · subst h
    rw [wrAll_ok hs]
    rfl
  · exact wrAll_bad hs h
/-- what is still to be written, from the i-th sector on -/
def restW (k : Nat) (T : List (List UInt8)) (i : Nat) : List (Int × List UInt8) := (List.range' i (T.length - i)).map (fun j => (((k + j : Nat) : Int), T.getD j [])) ++ [((k : Int), T.getD 0 [])]
theorem restW_step {k : Nat} {T : List (List UInt8)} {i : Nat} {t : List UInt8} (h : T[i]? = some t) : restW k T i = (((k + i : Nat) : Int), t) :: restW k T (i + 1) := by
  have hi := (List.getElem?_eq_some_iff.1 h).1
  unfold restW
  rw [show T.length - i = (T.length - (i + 1)) + 1 by omega, List.range'_succ, List.map_cons, List.cons_append, List.getD_eq_getElem?_getD, h]
  rfl
theorem restW_end {k : Nat} {T : List (List UInt8)} {t : List UInt8} (h : T[0]? = some t) : restW k T T.length = [((k : Int), t)] := by
  unfold restW
  rw [Nat.sub_self, List.getD_eq_getElem?_getD, h]
  rfl
/-- all that is written -/
def logW (n k : Nat) (T : List (List UInt8)) : List (Int × List UInt8) := if k + T.length < n then (((k + T.length : Nat) : Int), List.replicate 64 0) :: restW k T 1 else restW k T 1
theorem wr_writes (s : Dk.DS) (n : Nat) (i : Int) (b : List UInt8) : s.writes ≤ (s.wr n i b).1.writes ∧ (s.wr n i b).1.writes ≤ s.writes + 1 := by
  unfold Dk.DS.wr Dk.DS.write
  split
  · exact ⟨Nat.le_refl _, Nat.le_succ _⟩
  · split
    · exact ⟨Nat.le_refl _, Nat.le_succ _⟩
    · split
      · exact ⟨Nat.le_refl _, Nat.le_succ _⟩
      · split
        · exact ⟨Nat.le_succ _, Nat.le_refl _⟩
        · exact ⟨Nat.le_succ _, Nat.le_refl _⟩
theorem TxRow.at {w : World} {D : List Nat} {base ra N c : Nat} {T : List (List UInt8)} (h : TxRow w (.slice (some ⟨ra, 0, none⟩) N c) D base T) {i : Nat} {t : List UInt8} (ht : T[i]? = some t) :
    ∃ A ci, w.cell? ⟨ra, 0 + i, none⟩ = some (.slice A t.length ci) ∧ Rd w A t ∧ t.length ≤ ci ∧ (0 < t.length → ∀ b off, A = some ⟨b, off, none⟩ → b ∉ D) := by
  obtain ⟨vs, h1, h2, h3⟩ := h
  obtain ⟨A, ci, e1, e2, e3, e4⟩ := h3 i t ht
  obtain ⟨A', c', hv, _, _, hc⟩ := own_cells h2
  obtain ⟨g, hg, _, hcell⟩ := hc i _ e1
  injection hv with hv
  rw [← hv] at hg
  injection hg with hg
  injection hg with hg
  subst hg
  exact ⟨A, ci, by rw [Nat.zero_add]; exact hcell, e2, e4, fun hl b off hb => (e3 hl b off hb).1⟩
/-- what a write tells -/
def WrP (w : World) (p g n cap : Nat) (s' : Dk.DS) (r : Int) (e : Ending) (w' : World) : Prop := e = .returned (.int .i64 r) ∧ Dk.IsDisk w' p g n cap s' ∧ Fr [p, g] w w'
theorem write_n (w : World) (p g n cap : Nat) (s : Dk.DS) (h : Dk.IsDisk w p g n cap s) (i : Int) (A : Option Addr) (m c : Nat) (l : List UInt8) (hm : l.length = m)
    (hA : Rd w A l) (hAp : ∀ b off, A = some ⟨b, off, none⟩ → b ≠ p ∧ b < w.heap.size) (hcl : m ≤ c) (hw : s.writes < 1000000) (s' : Dk.DS) (e : Int) (hs : s.wr n i l = (s', e)) :
    Calls Try.prog 13 #[.pointer (some ⟨p, 0, none⟩), .int .i64 i, .slice A m c] w (WrP w p g n cap s' e) := by
  subst hm
  have := Dk.write_any w p g n cap s h i A c l hA hAp hcl hw
  rw [hs] at this
  exact this
theorem mk64 (w : World) : (Instr.makeSlice 26 (.int .i64 64) (.int .i64 64)).run Try.prog w = .ok (.slice (some ⟨w.heap.size, 0, none⟩) 64 64) (w.alloc (.cells (zs 64).toArray 5)) := by
  have := run_make_n (P := Try.prog) 26 5 (.int .u8 0) 1 1 Try.underlying26 infoU8 64 (by omega) (by omega) w
  rw [show (Value.int IntKind.u8 0).cells = #[.int .u8 0] from rfl, madeCells_one] at this
  exact this
theorem ex_mk64 {a : Act} {o : Oper} {x y : Operand} {w : World} (ho : o.op = .makeSlice 26 x y) (hx : a.eval x = .int .i64 64) (hy : a.eval y = .int .i64 64) : (execOp a.eval o).run Try.prog w = .ok (.value (.slice (some ⟨w.heap.size, 0, none⟩) 64 64)) (w.alloc (.cells (zs 64).toArray 5)) := by
  unfold execOp
  simp [ho, hx, hy, mk64]
set_option maxRecDepth 100000 in
set_option maxHeartbeats 2000000 in
theorem logwrite_calls (w : World) (x p g n cap : Nat) (s : Dk.DS) (lv : Value) (k : Nat) (last : List UInt8) (br : Bool) (h : LogB w x p lv (k : Int) last br) (hd : Dk.IsDisk w p g n cap s) (D : List Nat) (base ra N c : Nat) (T : List (List UInt8)) (ht : TxRow w (.slice (some ⟨ra, 0, none⟩) N c) D base T) (hN : T.length = N) (h1 : 1 ≤ N) (h64 : ∀ t ∈ T, t.length = 64)
    (hpD : p ∈ D) (hgD : g ∈ D) (hxg : x ≠ g) (hw : s.writes + N + 1 ≤ 1000000) (hk : k ≤ 1000000) :
    Calls Try.prog 38 #[.pointer (some ⟨x, 0, none⟩), .slice (some ⟨ra, 0, none⟩) N c] w (Dk.WPost p g n cap (wrAll n s (logW n k T)) w) := by
  have hxp : x ≠ p := Blk.ne_ h hd.head (by decide)
  have hrp : ra ≠ p := by
    obtain ⟨vs, _, h2, _⟩ := ht
    exact fun e => own_blk_ne h2 hd.head (by decide) (by rw [e]; rfl)
  have hrg : ra ≠ g := by
    obtain ⟨vs, _, h2, _⟩ := ht
    obtain ⟨rest, hr⟩ := hd.rows
    exact fun e => own_blk_ne h2 hr (by decide) (by rw [e]; rfl)
  have few := hd.few
  obtain ⟨t0, ht0⟩ : ∃ t, T[0]? = some t := ⟨T[0]'(by omega), by simp⟩
  have HT0 := Lib.hid ht0; have H64 := Lib.hid h64; have HN := Lib.hid hN
  have HT := Lib.hid ht; have HL := Lib.hid h; have HD := Lib.hid hd
  have HF := Lib.hid (fun W (f : Fr [p, g] w W) => (⟨h.fr f (by simp [hxp, hxg]), ht.fr f (fun y hy => .inl (by simp at hy; rcases hy with rfl | rfl <;> assumption)) (fun q hq hm => by
    simp [Value.ownBlock] at hq hm
    subst hq
    rcases hm with hm | hm
    · exact hrp hm
    · exact hrg hm)⟩ : LogB W x p lv (k : Int) last br ∧ TxRow W (.slice (some ⟨ra, 0, none⟩) N c) D base T))
  have HLN := Lib.hid (Dk.len_calls w p g n cap s hd)
  have HW := Lib.hid hw
  have HPD := Lib.hid (And.intro hpD hgD)
  have HNE := Lib.hid (And.intro hxp (And.intro hxg (And.intro hrp hrg)))
  have c0 := h.c0; have c2 := h.c2
  have hI : (0 : Int) ≤ (k : Int) ∧ (k : Int) ≤ 1000000 ∧ (1 : Int) ≤ (N : Int) ∧ (N : Int) ≤ 1000000 ∧ (0 : Int) ≤ (n : Int) ∧ (n : Int) ≤ 4096 := by omega
  obtain ⟨W, hW⟩ : ∃ W, wrAll n s (logW n k T) = W := ⟨_, rfl⟩
  have HWW := Lib.hid hW
  rw [hW]
  clear hxp hrp hrg ht0 h64 ht h hd hw hpD hgD hW hN hxg
  go_enter Try.func38, Try.ntmps38
  go_upto_if 22 with (first | (go_at_call 26; (refine HLN.out.mono ?_); rintro e w' ⟨rfl, rfl⟩))
  go_cut [7] (fun v wc => ∃ s1, Dk.IsDisk wc p g n cap s1 ∧ Fr [p, g] w wc ∧ W = wrAll n s1 (restW k T 1) ∧ s1.writes ≤ s.writes + 1)
  case first =>
    by_cases hlt : k + N < n
    · have hdec : decide ((k : Int) + (N : Int) < (n : Int)) = true := decide_eq_true (by omega)
      have hcast : ((k + T.length : Nat) : Int) = (k : Int) + (N : Int) := by rw [HN.out]; omega
      obtain ⟨s1, e1, hs1⟩ : ∃ s1 e1, s.wr n ((k : Int) + (N : Int)) (List.replicate 64 0) = (s1, e1) := ⟨_, _, rfl⟩
      have hWl : wrAll n s ((((k + T.length : Nat) : Int), List.replicate 64 0) :: restW k T 1) = W := by
        have := HWW.out
        unfold logW at this
        rwa [if_pos (by have := HN.out; omega)] at this
      rw [hcast] at hWl
      have HWL := Lib.hid hWl; have HS1 := Lib.hid hs1
      have hwr := (wr_writes s n ((k : Int) + (N : Int)) (List.replicate 64 0)).2
      rw [hs1] at hwr
      have HWR := Lib.hid hwr
      clear hWl hs1 hwr
      go_wp2_with fail
      have hS0 : LogB w.drew x p lv (k : Int) last br := HL.out
      refine sqs_begin (fun w9 => LogB w9 x p lv (k : Int) last br) (by kernel_rfl) ?_
      refine sqs_take (i := 0) (v := (.pointer (some ⟨x, 0, none⟩))) (d := 23) rfl (by kernel_rfl) (by kernel_rfl) (by kernel_rfl) (by kernel_rfl) (by kernel_rfl) (fun _ _ _ h => h) ?_ (by assumption) ?_
      · intro w9 h9; kernel_rfl
      try simp only [Act.put, List.setIfInBounds_toArray, List.set_cons_zero, List.set_cons_succ]
      refine sqs_take (i := 1) (v := (.pointer (some ⟨x, 0, none⟩))) (d := 24) rfl (by kernel_rfl) (by kernel_rfl) (by kernel_rfl) (by kernel_rfl) (by kernel_rfl) (fun _ _ _ h => h) ?_ (by assumption) ?_
      · intro w9 h9; kernel_rfl
      try simp only [Act.put, List.setIfInBounds_toArray, List.set_cons_zero, List.set_cons_succ]
      refine sqs_take (i := 2) (v := (.pointer (some ⟨x, 0, none⟩))) (d := 25) rfl (by kernel_rfl) (by kernel_rfl) (by kernel_rfl) (by kernel_rfl) (by kernel_rfl) (fun _ _ _ h => h) ?_ (by assumption) ?_
      · intro w9 h9; kernel_rfl
      try simp only [Act.put, List.setIfInBounds_toArray, List.set_cons_zero, List.set_cons_succ]
      refine sqs_take (i := 3) (v := (.pointer (some ⟨p, 0, none⟩))) (d := 26) rfl (by kernel_rfl) (by kernel_rfl) (by kernel_rfl) (by kernel_rfl) (by kernel_rfl) (fun _ _ _ h => h) ?_ (by assumption) ?_
      · intro w9 h9; exact exec_load_one rfl (by kernel_rfl) (.pointer (some ⟨p, 0, none⟩)) (.pointer 60) w9 (LogB.c0 h9) Try.underlying28 rfl
      try simp only [Act.put, List.setIfInBounds_toArray, List.set_cons_zero, List.set_cons_succ]
      refine sqs_take (i := 4) (v := (.int .i64 ((k : Int) + (N : Int)))) (d := 27) rfl (by kernel_rfl) (by kernel_rfl) (by kernel_rfl) (by kernel_rfl) (by kernel_rfl) (fun _ _ _ h => h) ?_ (by assumption) ?_
      · intro w9 h9; kernel_rfl
      try simp only [Act.put, List.setIfInBounds_toArray, List.set_cons_zero, List.set_cons_succ]
      refine sqs_only (i := 5) rfl (by kernel_rfl) (by kernel_rfl) ?_
      have hr5 := fun (a₀ : Act) (o₀ : Oper) (K₀ : Act → World → Prop) (Q₀ : Exit → Act → World → Prop) => @sq_val Try.prog Q₀ a₀ o₀ w.drew K₀ (.slice (some ⟨w.drew.heap.size, 0, none⟩) 64 64) (w.drew.alloc (.cells (zs 64).toArray 5)) 28
      refine hr5 _ _ _ _ ?_ ?_ ?_
      · kernel_rfl
      · exact ex_mk64 rfl rfl rfl
      clear hr5
      refine ⟨(LogB.fr hS0 ((Fr.refl [] w.drew).alloc _) (by simp)), ?_⟩
      try simp only [Act.put, List.setIfInBounds_toArray, List.set_cons_zero, List.set_cons_succ]
      obtain ⟨y, hy⟩ : ∃ y, w.drew.heap.size = y := ⟨_, rfl⟩
      obtain ⟨w2, hw2⟩ : ∃ W, w.drew.alloc (.cells (zs 64).toArray 5) = W := ⟨_, rfl⟩
      rw [hw2, hy]
      have f2 : Fr [] w w2 := hw2 ▸ (Fr.refl [] w).drew.alloc _
      have hr2 : Rd w2 (some ⟨y, 0, none⟩) (List.replicate 64 0) := rd_row' (t := 5) (show Blk w2 y 5 (u8s (List.replicate 64 0)).toArray from hw2 ▸ hy ▸ Blk.new w.drew _ _)
      have hyp : y ≠ p ∧ y < w2.heap.size := ⟨fun e => by have := HD.out.lt.1; have : w.heap.size = y := hy; omega, by have := hr2.lt (by simp); exact this⟩
      have SS : ∀ {w3}, Fr [p, g] w2 w3 → LogB w3 x p lv (k : Int) last br := fun f => LogB.fr (HL.out.fr f2 (by simp)) f (by simp [HNE.out.1, HNE.out.2.1])
      refine sqs_only (i := 6) rfl (by kernel_rfl) (by kernel_rfl) ?_
      have hr6 := fun (a₀ : Act) (o₀ : Oper) (K₀ : Act → World → Prop) (Q₀ : Exit → Act → World → Prop) => @sq_call Try.prog Q₀ a₀ o₀ w2 K₀ (WrP w2 p g n cap s1 e1) 13 #[.pointer (some ⟨p, 0, none⟩), .int .i64 ((k : Int) + (N : Int)), .slice (some ⟨y, 0, none⟩) 64 64] 29
      refine hr6 _ _ _ _ ?_ ?_ ?_ ?_
      · kernel_rfl
      · kernel_rfl
      · exact (write_n w2 p g n cap s (HD.out.fr f2 (by simp) (by simp)) _ _ 64 64 (List.replicate 64 0) (by simp) hr2 (fun b off hb => by injection hb with hb; injection hb with hb; subst hb; exact hyp) (Nat.le_refl _) (by have := HW.out; omega) s1 e1 HS1.out)
      rintro e w3 ⟨rfl, hd3, f3⟩
      have hS3 := SS f3
      refine ⟨_, rfl, hS3, ?_⟩
      clear hr6
      try simp only [Act.put, List.setIfInBounds_toArray, List.set_cons_zero, List.set_cons_succ]
      refine sqs_take (i := 7) (v := (.int .i64 e1)) (d := 6) rfl (by kernel_rfl) (by kernel_rfl) (by kernel_rfl) (by kernel_rfl) (by kernel_rfl) (fun _ _ _ h => h) ?_ (by assumption) ?_
      · intro w9 h9; kernel_rfl
      try simp only [Act.put, List.setIfInBounds_toArray, List.set_cons_zero, List.set_cons_succ]
      refine wpAnyH_done (by kernel_rfl) ?_ _
      have hF3 := (f2.mono (T := [p, g]) (by simp)).trans f3
      clear hS3 SS hr2 f2 f3 hyp hw2 hy hS0
      have HD3 := Lib.hid hd3
      have HF3 := Lib.hid (show Fr [p, g] w w3 from hF3)
      clear hd3
      by_cases h0 : e1 = 0
      · subst h0
        have HE := Lib.hid (wrAll_ok (l := restW k T 1) HS1.out)
        go_wp2_with fail
        go_meet
        exact ⟨s1, HD3.out, HF3.out, by rw [← HWL.out]; exact HE.out, HWR.out⟩
      · have hb : (e1 != 0) = true := by simpa using h0
        have HE := Lib.hid (wrAll_bad (l := restW k T 1) HS1.out h0)
        go_wp2_with fail
        go_ret
        rw [← HWL.out, HE.out]
        exact ⟨rfl, HD3.out, HF3.out⟩
    · have hdec : decide ((k : Int) + (N : Int) < (n : Int)) = false := decide_eq_false (by omega)
      have hWl : wrAll n s (restW k T 1) = W := by
        have := HWW.out
        unfold logW at this
        rwa [if_neg (by have := HN.out; omega)] at this
      go_wp2_with fail
      go_meet
      exact ⟨s, HD.out, Fr.refl _ _, hWl.symm, Nat.le_succ _⟩
  case rest =>
    obtain ⟨s1, hd1, hf1, hW1, hw1⟩ := hcut
    have HD1 := Lib.hid hd1; have HF1 := Lib.hid hf1; have HW1 := Lib.hid hW1; have HS1 := Lib.hid hw1
    clear hd1 hf1 hW1 hw1 c0 c2
    go_wp2_with fail
    go_loopg [7] (N - 1) (fun gg u wr => ∃ (j : Nat) (sj : Dk.DS), 1 ≤ j ∧ j ≤ N ∧ gg = N - j ∧ u = .int .i64 (j : Int) ∧ Dk.IsDisk wr p g n cap sj ∧ Fr [p, g] w wr ∧ W = wrAll n sj (restW k T j) ∧ sj.writes ≤ s.writes + j)
    case atStart => exact ⟨1, s1, by omega, by omega, by omega, rfl, HD1.out, HF1.out, HW1.out, HS1.out⟩
    case round =>
      obtain ⟨j, sj, hj1, hj, rfl, rfl, hdj, hfj, hWj, hwj⟩ := hrel
      have HDJ := Lib.hid hdj; have HFJ := Lib.hid hfj; have HWJ := Lib.hid hWj; have HSJ := Lib.hid hwj
      have HLJ := Lib.hid (HF.out wr hfj)
      have hjI : (1 : Int) ≤ (j : Int) ∧ (j : Int) ≤ (N : Int) := by omega
      clear hdj hfj hWj hwj
      by_cases hlt : j < N
      · obtain ⟨t, ht⟩ : ∃ t, T[j]? = some t := ⟨T[j]'(by have := HN.out; omega), by simp⟩
        have htl := H64.out t (List.mem_of_getElem? ht)
        obtain ⟨Ai, ci, hci, hri, hlei, hni⟩ := HLJ.out.2.at ht
        have HTI := Lib.hid ht; have HRI := Lib.hid hri; have HNI := Lib.hid hni; have HLE := Lib.hid hlei; have HTL := Lib.hid htl
        rw [htl] at hci
        have HCI := Lib.hid hci
        have hIX := fun w' => ix_sl0 (P := Try.prog) (b := ra) (off := 0) (n := N) (c := c) Try.underlying25 size_sl hlt w'
        have HIX := Lib.hid hIX
        obtain ⟨s2, e2, hs2⟩ : ∃ s2 e2, sj.wr n ((k : Int) + (j : Int)) t = (s2, e2) := ⟨_, _, rfl⟩
        have HS2 := Lib.hid hs2
        have hwr := (wr_writes sj n ((k : Int) + (j : Int)) t).2
        rw [hs2] at hwr
        have HWR := Lib.hid hwr
        have hst : restW k T j = ((k : Int) + (j : Int), t) :: restW k T (j + 1) := by rw [restW_step ht]; rfl
        have HST := Lib.hid hst
        have hjI2 : (j : Int) < (N : Int) := by omega
        clear ht htl hci hri hlei hni hIX hs2 hwr hst
        go_wp2_with fail
        have hS0 : LogB wr.drew x p lv (k : Int) last br ∧ wr.drew.cell? ⟨ra, 0 + j, none⟩ = some (.slice Ai 64 ci) := ⟨HLJ.out.1, HCI.out⟩
        have SS : ∀ {w3}, Fr [p, g] wr.drew w3 → LogB w3 x p lv (k : Int) last br ∧ w3.cell? ⟨ra, 0 + j, none⟩ = some (.slice Ai 64 ci) := fun f => ⟨LogB.fr hS0.1 f (by simp [HNE.out.1, HNE.out.2.1]), (f.cell (p := ⟨ra, 0 + j, none⟩) (World.block_lt_of_cell? _ _ hS0.2) (by simp [HNE.out.2.2.1, HNE.out.2.2.2])).trans hS0.2⟩
        refine sqs_begin (fun w9 => LogB w9 x p lv (k : Int) last br ∧ w9.cell? ⟨ra, 0 + j, none⟩ = some (.slice Ai 64 ci)) (by kernel_rfl) ?_
        refine sqs_take (i := 0) (v := (.pointer (some ⟨x, 0, none⟩))) (d := 39) rfl (by kernel_rfl) (by kernel_rfl) (by kernel_rfl) (by kernel_rfl) (by kernel_rfl) (fun _ _ _ h => h) ?_ (by assumption) ?_
        · intro w9 h9; kernel_rfl
        try simp only [Act.put, List.setIfInBounds_toArray, List.set_cons_zero, List.set_cons_succ]
        refine sqs_take (i := 1) (v := (.pointer (some ⟨x, 0, none⟩))) (d := 40) rfl (by kernel_rfl) (by kernel_rfl) (by kernel_rfl) (by kernel_rfl) (by kernel_rfl) (fun _ _ _ h => h) ?_ (by assumption) ?_
        · intro w9 h9; kernel_rfl
        try simp only [Act.put, List.setIfInBounds_toArray, List.set_cons_zero, List.set_cons_succ]
        refine sqs_take (i := 2) (v := (.pointer (some ⟨x, 0, none⟩))) (d := 41) rfl (by kernel_rfl) (by kernel_rfl) (by kernel_rfl) (by kernel_rfl) (by kernel_rfl) (fun _ _ _ h => h) ?_ (by assumption) ?_
        · intro w9 h9; kernel_rfl
        try simp only [Act.put, List.setIfInBounds_toArray, List.set_cons_zero, List.set_cons_succ]
        refine sqs_take (i := 3) (v := (.pointer (some ⟨p, 0, none⟩))) (d := 42) rfl (by kernel_rfl) (by kernel_rfl) (by kernel_rfl) (by kernel_rfl) (by kernel_rfl) (fun _ _ _ h => h) ?_ (by assumption) ?_
        · intro w9 h9; exact exec_load_one rfl (by kernel_rfl) (.pointer (some ⟨p, 0, none⟩)) (.pointer 60) w9 (LogB.c0 h9.1) Try.underlying28 rfl
        try simp only [Act.put, List.setIfInBounds_toArray, List.set_cons_zero, List.set_cons_succ]
        refine sqs_take (i := 4) (v := (.pointer (some ⟨x, 0, none⟩))) (d := 43) rfl (by kernel_rfl) (by kernel_rfl) (by kernel_rfl) (by kernel_rfl) (by kernel_rfl) (fun _ _ _ h => h) ?_ (by assumption) ?_
        · intro w9 h9; kernel_rfl
        try simp only [Act.put, List.setIfInBounds_toArray, List.set_cons_zero, List.set_cons_succ]
        refine sqs_take (i := 5) (v := (.pointer (some ⟨x, 0, none⟩))) (d := 44) rfl (by kernel_rfl) (by kernel_rfl) (by kernel_rfl) (by kernel_rfl) (by kernel_rfl) (fun _ _ _ h => h) ?_ (by assumption) ?_
        · intro w9 h9; kernel_rfl
        try simp only [Act.put, List.setIfInBounds_toArray, List.set_cons_zero, List.set_cons_succ]
        refine sqs_take (i := 6) (v := (.pointer (some ⟨x, 2, none⟩))) (d := 45) rfl (by kernel_rfl) (by kernel_rfl) (by kernel_rfl) (by kernel_rfl) (by kernel_rfl) (fun _ _ _ h => h) ?_ (by assumption) ?_
        · intro w9 h9; kernel_rfl
        try simp only [Act.put, List.setIfInBounds_toArray, List.set_cons_zero, List.set_cons_succ]
        refine sqs_take (i := 7) (v := (.int .i64 (k : Int))) (d := 46) rfl (by kernel_rfl) (by kernel_rfl) (by kernel_rfl) (by kernel_rfl) (by kernel_rfl) (fun _ _ _ h => h) ?_ (by assumption) ?_
        · intro w9 h9; exact exec_load_one rfl (by kernel_rfl) (.int .i64 (k : Int)) (.int .i64) w9 (LogB.c2 h9.1) Try.underlying3 rfl
        try simp only [Act.put, List.setIfInBounds_toArray, List.set_cons_zero, List.set_cons_succ]
        refine sqs_take (i := 8) (v := (.int .i64 (j : Int))) (d := 47) rfl (by kernel_rfl) (by kernel_rfl) (by kernel_rfl) (by kernel_rfl) (by kernel_rfl) (fun _ _ _ h => h) ?_ (by assumption) ?_
        · intro w9 h9; kernel_rfl
        try simp only [Act.put, List.setIfInBounds_toArray, List.set_cons_zero, List.set_cons_succ]
        refine sqs_take (i := 9) (v := (.int .i64 ((k : Int) + (j : Int)))) (d := 48) rfl (by kernel_rfl) (by kernel_rfl) (by kernel_rfl) (by kernel_rfl) (by kernel_rfl) (fun _ _ _ h => h) ?_ (by assumption) ?_
        · intro w9 h9; go_simp; rw [IntKind.wrap_i64] <;> omega
        try simp only [Act.put, List.setIfInBounds_toArray, List.set_cons_zero, List.set_cons_succ]
        refine sqs_take (i := 10) (v := (.slice (some ⟨ra, 0, none⟩) N c)) (d := 49) rfl (by kernel_rfl) (by kernel_rfl) (by kernel_rfl) (by kernel_rfl) (by kernel_rfl) (fun _ _ _ h => h) ?_ (by assumption) ?_
        · intro w9 h9; kernel_rfl
        try simp only [Act.put, List.setIfInBounds_toArray, List.set_cons_zero, List.set_cons_succ]
        refine sqs_take (i := 11) (v := (.int .i64 (j : Int))) (d := 50) rfl (by kernel_rfl) (by kernel_rfl) (by kernel_rfl) (by kernel_rfl) (by kernel_rfl) (fun _ _ _ h => h) ?_ (by assumption) ?_
        · intro w9 h9; kernel_rfl
        try simp only [Act.put, List.setIfInBounds_toArray, List.set_cons_zero, List.set_cons_succ]
        refine sqs_take (i := 12) (v := (.pointer (some ⟨ra, 0 + j, none⟩))) (d := 51) rfl (by kernel_rfl) (by kernel_rfl) (by kernel_rfl) (by kernel_rfl) (by kernel_rfl) (fun _ _ _ h => h) ?_ (by assumption) ?_
        · intro w9 h9; exact ex_ixa rfl (by kernel_rfl) (by kernel_rfl) (HIX.out w9)
        try simp only [Act.put, List.setIfInBounds_toArray, List.set_cons_zero, List.set_cons_succ]
        refine sqs_take (i := 13) (v := (.slice Ai 64 ci)) (d := 52) rfl (by kernel_rfl) (by kernel_rfl) (by kernel_rfl) (by kernel_rfl) (by kernel_rfl) (fun _ _ _ h => h) ?_ (by assumption) ?_
        · intro w9 h9; exact exec_load_one rfl (by kernel_rfl) (.slice Ai 64 ci) (.slice 5) w9 h9.2 Try.underlying26 rfl
        try simp only [Act.put, List.setIfInBounds_toArray, List.set_cons_zero, List.set_cons_succ]
        refine sqs_only (i := 14) rfl (by kernel_rfl) (by kernel_rfl) ?_
        have hr14 := fun (a₀ : Act) (o₀ : Oper) (K₀ : Act → World → Prop) (Q₀ : Exit → Act → World → Prop) => @sq_call Try.prog Q₀ a₀ o₀ wr.drew K₀ (WrP wr.drew p g n cap s2 e2) 13 #[.pointer (some ⟨p, 0, none⟩), .int .i64 ((k : Int) + (j : Int)), .slice Ai 64 ci] 53
        refine hr14 _ _ _ _ ?_ ?_ ?_ ?_
        · kernel_rfl
        · kernel_rfl
        · exact (write_n wr.drew p g n cap sj (HDJ.out.fr (Fr.refl [] wr).drew (by simp) (by simp)) _ _ 64 ci t HTL.out HRI.out (fun b off hb => ⟨fun e => HNI.out (by rw [HTL.out]; omega) b off hb (e ▸ HPD.out.1), HRI.out.blk_lt (by rw [HTL.out]; omega) b off hb⟩) (by rw [← HTL.out]; exact HLE.out) (by have := HSJ.out; have := HW.out; omega) s2 e2 HS2.out)
        rintro e w3 ⟨rfl, hd3, f3⟩
        have hS3 := SS f3
        refine ⟨_, rfl, hS3, ?_⟩
        clear hr14
        try simp only [Act.put, List.setIfInBounds_toArray, List.set_cons_zero, List.set_cons_succ]
        refine sqs_take (i := 15) (v := (.int .i64 e2)) (d := 8) rfl (by kernel_rfl) (by kernel_rfl) (by kernel_rfl) (by kernel_rfl) (by kernel_rfl) (fun _ _ _ h => h) ?_ (by assumption) ?_
        · intro w9 h9; kernel_rfl
        try simp only [Act.put, List.setIfInBounds_toArray, List.set_cons_zero, List.set_cons_succ]
        refine wpAnyH_done (by kernel_rfl) ?_ _
        have hF3 := f3
        clear hS3 SS f3 hS0
        have HD4 := Lib.hid hd3
        have HF4 := Lib.hid (show Fr [p, g] w w3 from HFJ.out.trans ((Fr.refl [p, g] wr).drew.trans hF3))
        clear hd3
        by_cases h0 : e2 = 0
        · subst h0
          have HE := Lib.hid (wrAll_ok (l := restW k T (j + 1)) HS2.out)
          go_wp2_with fail
          go_roundg (N - (j + 1))
          case measure => omega
          case rel => exact ⟨j + 1, s2, by omega, by omega, rfl, by go_num, HD4.out, HF4.out, by rw [HWJ.out, HST.out]; exact HE.out, by have := HWR.out; have := HSJ.out; omega⟩
        · have hb : (e2 != 0) = true := by simpa using h0
          have HE := Lib.hid (wrAll_bad (l := restW k T (j + 1)) HS2.out h0)
          go_wp2_with fail
          go_ret
          rw [HWJ.out, HST.out, HE.out]
          exact ⟨rfl, HD4.out, HF4.out⟩
      · obtain rfl : j = N := by omega
        obtain ⟨Ai, ci, hci, hri, hlei, hni⟩ := HLJ.out.2.at HT0.out
        have htl := H64.out t0 (List.mem_of_getElem? HT0.out)
        have HRI := Lib.hid hri; have HNI := Lib.hid hni; have HLE := Lib.hid hlei; have HTL := Lib.hid htl
        rw [htl] at hci
        have HCI := Lib.hid hci
        have HIX := Lib.hid (fun w' => ix_sl0 (P := Try.prog) (b := ra) (off := 0) (n := j) (c := c) (j := 0) Try.underlying25 size_sl (by omega) w')
        obtain ⟨s2, e2, hs2⟩ : ∃ s2 e2, sj.wr n (k : Int) t0 = (s2, e2) := ⟨_, _, rfl⟩
        have HS2 := Lib.hid hs2
        have hWe : W = (s2, e2) := by
          rw [HWJ.out, ← HN.out, restW_end HT0.out, wrAll_one, hs2]
        have HWE := Lib.hid hWe
        clear htl hci hri hlei hni hs2 hWe
        go_wp2_with fail
        have hS0 : LogB wr.drew x p lv (k : Int) last br ∧ wr.drew.cell? ⟨ra, 0 + 0, none⟩ = some (.slice Ai 64 ci) := ⟨HLJ.out.1, HCI.out⟩
        have SS : ∀ {w3}, Fr [p, g] wr.drew w3 → LogB w3 x p lv (k : Int) last br ∧ w3.cell? ⟨ra, 0 + 0, none⟩ = some (.slice Ai 64 ci) := fun f => ⟨LogB.fr hS0.1 f (by simp [HNE.out.1, HNE.out.2.1]), (f.cell (p := ⟨ra, 0 + 0, none⟩) (World.block_lt_of_cell? _ _ hS0.2) (by simp [HNE.out.2.2.1, HNE.out.2.2.2])).trans hS0.2⟩
        refine sqs_begin (fun w9 => LogB w9 x p lv (k : Int) last br ∧ w9.cell? ⟨ra, 0 + 0, none⟩ = some (.slice Ai 64 ci)) (by kernel_rfl) ?_
        refine sqs_take (i := 0) (v := (.pointer (some ⟨x, 0, none⟩))) (d := 57) rfl (by kernel_rfl) (by kernel_rfl) (by kernel_rfl) (by kernel_rfl) (by kernel_rfl) (fun _ _ _ h => h) ?_ (by assumption) ?_
        · intro w9 h9; kernel_rfl
        try simp only [Act.put, List.setIfInBounds_toArray, List.set_cons_zero, List.set_cons_succ]
        refine sqs_take (i := 1) (v := (.pointer (some ⟨x, 0, none⟩))) (d := 58) rfl (by kernel_rfl) (by kernel_rfl) (by kernel_rfl) (by kernel_rfl) (by kernel_rfl) (fun _ _ _ h => h) ?_ (by assumption) ?_
        · intro w9 h9; kernel_rfl
        try simp only [Act.put, List.setIfInBounds_toArray, List.set_cons_zero, List.set_cons_succ]
        refine sqs_take (i := 2) (v := (.pointer (some ⟨x, 0, none⟩))) (d := 59) rfl (by kernel_rfl) (by kernel_rfl) (by kernel_rfl) (by kernel_rfl) (by kernel_rfl) (fun _ _ _ h => h) ?_ (by assumption) ?_
        · intro w9 h9; kernel_rfl
        try simp only [Act.put, List.setIfInBounds_toArray, List.set_cons_zero, List.set_cons_succ]
        refine sqs_take (i := 3) (v := (.pointer (some ⟨p, 0, none⟩))) (d := 60) rfl (by kernel_rfl) (by kernel_rfl) (by kernel_rfl) (by kernel_rfl) (by kernel_rfl) (fun _ _ _ h => h) ?_ (by assumption) ?_
        · intro w9 h9; exact exec_load_one rfl (by kernel_rfl) (.pointer (some ⟨p, 0, none⟩)) (.pointer 60) w9 (LogB.c0 h9.1) Try.underlying28 rfl
        try simp only [Act.put, List.setIfInBounds_toArray, List.set_cons_zero, List.set_cons_succ]
        refine sqs_take (i := 4) (v := (.pointer (some ⟨x, 0, none⟩))) (d := 61) rfl (by kernel_rfl) (by kernel_rfl) (by kernel_rfl) (by kernel_rfl) (by kernel_rfl) (fun _ _ _ h => h) ?_ (by assumption) ?_
        · intro w9 h9; kernel_rfl
        try simp only [Act.put, List.setIfInBounds_toArray, List.set_cons_zero, List.set_cons_succ]
        refine sqs_take (i := 5) (v := (.pointer (some ⟨x, 0, none⟩))) (d := 62) rfl (by kernel_rfl) (by kernel_rfl) (by kernel_rfl) (by kernel_rfl) (by kernel_rfl) (fun _ _ _ h => h) ?_ (by assumption) ?_
        · intro w9 h9; kernel_rfl
        try simp only [Act.put, List.setIfInBounds_toArray, List.set_cons_zero, List.set_cons_succ]
        refine sqs_take (i := 6) (v := (.pointer (some ⟨x, 2, none⟩))) (d := 63) rfl (by kernel_rfl) (by kernel_rfl) (by kernel_rfl) (by kernel_rfl) (by kernel_rfl) (fun _ _ _ h => h) ?_ (by assumption) ?_
        · intro w9 h9; kernel_rfl
        try simp only [Act.put, List.setIfInBounds_toArray, List.set_cons_zero, List.set_cons_succ]
        refine sqs_take (i := 7) (v := (.int .i64 (k : Int))) (d := 64) rfl (by kernel_rfl) (by kernel_rfl) (by kernel_rfl) (by kernel_rfl) (by kernel_rfl) (fun _ _ _ h => h) ?_ (by assumption) ?_
        · intro w9 h9; exact exec_load_one rfl (by kernel_rfl) (.int .i64 (k : Int)) (.int .i64) w9 (LogB.c2 h9.1) Try.underlying3 rfl
        try simp only [Act.put, List.setIfInBounds_toArray, List.set_cons_zero, List.set_cons_succ]
        refine sqs_take (i := 8) (v := (.slice (some ⟨ra, 0, none⟩) j c)) (d := 65) rfl (by kernel_rfl) (by kernel_rfl) (by kernel_rfl) (by kernel_rfl) (by kernel_rfl) (fun _ _ _ h => h) ?_ (by assumption) ?_
        · intro w9 h9; kernel_rfl
        try simp only [Act.put, List.setIfInBounds_toArray, List.set_cons_zero, List.set_cons_succ]
        refine sqs_take (i := 9) (v := (.pointer (some ⟨ra, 0 + 0, none⟩))) (d := 66) rfl (by kernel_rfl) (by kernel_rfl) (by kernel_rfl) (by kernel_rfl) (by kernel_rfl) (fun _ _ _ h => h) ?_ (by assumption) ?_
        · intro w9 h9; exact ex_ixa rfl (by kernel_rfl) (by kernel_rfl) (HIX.out w9)
        try simp only [Act.put, List.setIfInBounds_toArray, List.set_cons_zero, List.set_cons_succ]
        refine sqs_take (i := 10) (v := (.slice Ai 64 ci)) (d := 67) rfl (by kernel_rfl) (by kernel_rfl) (by kernel_rfl) (by kernel_rfl) (by kernel_rfl) (fun _ _ _ h => h) ?_ (by assumption) ?_
        · intro w9 h9; exact exec_load_one rfl (by kernel_rfl) (.slice Ai 64 ci) (.slice 5) w9 h9.2 Try.underlying26 rfl
        try simp only [Act.put, List.setIfInBounds_toArray, List.set_cons_zero, List.set_cons_succ]
        refine sqs_only (i := 11) rfl (by kernel_rfl) (by kernel_rfl) ?_
        have hr11 := fun (a₀ : Act) (o₀ : Oper) (K₀ : Act → World → Prop) (Q₀ : Exit → Act → World → Prop) => @sq_call Try.prog Q₀ a₀ o₀ wr.drew K₀ (WrP wr.drew p g n cap s2 e2) 13 #[.pointer (some ⟨p, 0, none⟩), .int .i64 (k : Int), .slice Ai 64 ci] 68
        refine hr11 _ _ _ _ ?_ ?_ ?_ ?_
        · kernel_rfl
        · kernel_rfl
        · exact (write_n wr.drew p g n cap sj (HDJ.out.fr (Fr.refl [] wr).drew (by simp) (by simp)) _ _ 64 ci t0 HTL.out HRI.out (fun b off hb => ⟨fun e => HNI.out (by rw [HTL.out]; omega) b off hb (e ▸ HPD.out.1), HRI.out.blk_lt (by rw [HTL.out]; omega) b off hb⟩) (by rw [← HTL.out]; exact HLE.out) (by have := HSJ.out; have := HW.out; omega) s2 e2 HS2.out)
        rintro e w3 ⟨rfl, hd3, f3⟩
        have hS3 := SS f3
        refine ⟨_, rfl, hS3, ?_⟩
        clear hr11
        try simp only [Act.put, List.setIfInBounds_toArray, List.set_cons_zero, List.set_cons_succ]
        refine sqs_take (i := 12) (v := (.int .i64 e2)) (d := 4) rfl (by kernel_rfl) (by kernel_rfl) (by kernel_rfl) (by kernel_rfl) (by kernel_rfl) (fun _ _ _ h => h) ?_ (by assumption) ?_
        · intro w9 h9; kernel_rfl
        try simp only [Act.put, List.setIfInBounds_toArray, List.set_cons_zero, List.set_cons_succ]
        refine wpAnyH_done (by kernel_rfl) ?_ _
        have hF3 := f3
        clear hS3 SS f3 hS0
        have HD4 := Lib.hid hd3
        have HF4 := Lib.hid (show Fr [p, g] w w3 from HFJ.out.trans ((Fr.refl [p, g] wr).drew.trans hF3))
        clear hd3
        go_wp2_with fail
        go_ret
        rw [HWE.out]
        exact ⟨rfl, HD4.out, HF4.out⟩
end Go.Proofs.Ytmmjihkcofgmmaa

/- The log: a record is appended. -/
namespace Go.Proofs.Ytmmjihkcofgmmaa
open Go.RowKit
set_option linter.unusedVariables false

/-- A log lies at block x: over the disk at p, with the records T, k sectors used. -/
structure IsLog (w : World) (x p g n cap : Nat) (s : Dk.DS) (lv : Value) (T : List (List UInt8)) (k : Nat) (br : Bool) (D : List Nat) (base : Nat) : Prop where
  head : LogB w x p lv (k : Int) (lastR T) br
  disk : Dk.IsDisk w p g n cap s
  rows : TxRow w lv D base T
  hk : k ≤ n
  hT : T.length ≤ k
  hs : ∀ t ∈ T, t.length ≤ 100000
  hx : x ∈ D
  hp : p ∈ D
  hg : g ∈ D
  hD : ∀ y ∈ D, y < w.heap.size
  hb : base ≤ w.heap.size
theorem IsLog.xg {w : World} {x p g n cap : Nat} {s : Dk.DS} {lv : Value} {T : List (List UInt8)} {k : Nat} {br : Bool} {D : List Nat} {base : Nat} (h : IsLog w x p g n cap s lv T k br D base) : x ≠ g ∧ x ≠ p ∧ lv.ownBlock ≠ some x ∧ lv.ownBlock ≠ some p ∧ lv.ownBlock ≠ some g := by
  obtain ⟨rest, hr⟩ := h.disk.rows
  obtain ⟨vs, _, h2, _⟩ := h.rows
  exact ⟨Blk.ne_ h.head hr (by decide), Blk.ne_ h.head h.disk.head (by decide), own_blk_ne h2 h.head (by decide), own_blk_ne h2 h.disk.head (by decide), own_blk_ne h2 hr (by decide)⟩
theorem IsLog.fr {w w' : World} {x p g n cap : Nat} {s : Dk.DS} {lv : Value} {T : List (List UInt8)} {k : Nat} {br : Bool} {D : List Nat} {base : Nat} (h : IsLog w x p g n cap s lv T k br D base) (hf : Fr [] w w') : IsLog w' x p g n cap s lv T k br D base :=
  ⟨h.head.fr hf (by simp), h.disk.fr hf (by simp) (by simp), h.rows.frD hf, h.hk, h.hT, h.hs, h.hx, h.hp, h.hg, fun y hy => Nat.lt_of_lt_of_le (h.hD y hy) hf.size, Nat.le_trans h.hb hf.size⟩
theorem secT_length (n : Nat) (b sum : List UInt8) (h : b.length ≤ 100000) : (secT n b sum).length = needN b.length := by
  rw [needN_le _ h]
  simp [secT, partsT]
  omega
theorem secT_64 (n : Nat) (b sum : List UInt8) (h : sum.length = 32) : ∀ t ∈ secT n b sum, t.length = 64 := by
  intro t ht
  rcases List.mem_cons.1 ht with rfl | ht
  · exact firstB_length n b sum h
  · obtain ⟨j, _, rfl⟩ := List.mem_map.1 ht
    exact partT_length _ _
theorem needN_pos (n : Nat) (h : n ≤ 100000) : 1 ≤ needN n := by rw [needN_le n h]; omega
theorem TxRow.form {w : World} {v : Value} {D : List Nat} {base : Nat} {T : List (List UInt8)} (h : TxRow w v D base T) (h0 : 0 < T.length) : ∃ ra c, v = .slice (some ⟨ra, 0, none⟩) T.length c := by
  obtain ⟨vs, _, h2, _⟩ := h
  obtain ⟨A, c, hv, _, hA, _⟩ := own_cells h2
  obtain ⟨g, rfl, _⟩ := hA h0
  exact ⟨g, c, hv⟩
theorem TxRow.len {w : World} {A : Option Addr} {n c : Nat} {D : List Nat} {base : Nat} {T : List (List UInt8)} (h : TxRow w (.slice A n c) D base T) : n = T.length := by
  obtain ⟨vs, _, h2, _⟩ := h
  obtain ⟨A', c', hv, _⟩ := own_cells h2
  injection hv
theorem need_nat (w : World) (m : Nat) (h : m ≤ 100000) : Calls Try.prog 9 #[.int .i64 (m : Int)] w (Same (.int .i64 (needN m : Int)) w) := by
  have := need_calls w (m : Int)
  rwa [needZ_nat m h] at this
theorem ex_alloc_agg {P : Program} {a : Act} {o : Oper} {ty : TypeId} {Z : Array Value} {w : World} (ho : o.op = .alloc ty) (hz : (P.info? ty).map (·.zero) = some (some (.agg Z))) : (execOp a.eval o).run P w = .ok (.value (.pointer (some ⟨w.heap.size, 0, none⟩))) (w.alloc (.cells Z ty)) := by
  cases hq : P.info? ty with
  | none => simp [hq] at hz
  | some i =>
    have hs : i.zero = some (.agg Z) := by simpa [hq] using hz
    unfold execOp
    simp [ho, Instr.alloc, zeroValue, typeInfo, hq, hs, newVar, newRow, newObj, Value.cells, Sem.run]
theorem logC_setb' (p : Nat) (lv : Value) (k : Int) (last : List UInt8) (br br' : Bool) (h : last.length = 32) : (logC p lv k last br).toArray.setIfInBounds 35 (.bool br') = (logC p lv k last br').toArray := by
  unfold logC
  rw [List.setIfInBounds_toArray]
  congr 1
  simp [List.set_append, h]
/-- what an append does -/
def appR (n : Nat) (s : Dk.DS) (T : List (List UInt8)) (k : Nat) (br : Bool) (b : List UInt8) : Int × Dk.DS × List (List UInt8) × Nat × Bool :=
  if br then (30, s, T, k, true)
  else if n < k + needN b.length then (12, s, T, k, false)
  else if (wrAll n s (logW n k (secT T.length b (sumR (lastR T) T.length b)))).2 = 0 then (0, (wrAll n s (logW n k (secT T.length b (sumR (lastR T) T.length b)))).1, T ++ [b], k + needN b.length, false)
  else ((wrAll n s (logW n k (secT T.length b (sumR (lastR T) T.length b)))).2, (wrAll n s (logW n k (secT T.length b (sumR (lastR T) T.length b)))).1, T, k, true)
def AppP (w : World) (x p g n cap : Nat) (lv : Value) (D : List Nat) (base : Nat) (R : Int × Dk.DS × List (List UInt8) × Nat × Bool) (e : Ending) (w' : World) : Prop :=
  ∃ lv', e = .returned (.int .i64 R.1) ∧ IsLog w' x p g n cap R.2.1 lv' R.2.2.1 R.2.2.2.1 R.2.2.2.2 D base ∧ Fr (x :: p :: g :: lv.ownBlock.toList) w w' ∧ ∀ q, lv'.ownBlock = some q → lv.ownBlock = some q ∨ w.heap.size ≤ q
set_option maxRecDepth 100000 in
theorem append_broken (w : World) (x p g n cap : Nat) (s : Dk.DS) (lv : Value) (T : List (List UInt8)) (k : Nat) (D : List Nat) (base : Nat) (h : IsLog w x p g n cap s lv T k true D base) (v : Value) (b : List UInt8) :
    Calls Try.prog 21 #[.pointer (some ⟨x, 0, none⟩), v] w (AppP w x p g n cap lv D base (appR n s T k true b)) := by
  have c35 := h.head.c35 (lastR_length T)
  have H := Lib.hid h
  clear h
  go_enter Try.func21, Try.ntmps21
  go_wp2_with fail
  go_ret
  exact ⟨lv, rfl, H.out, Fr.refl _ _, fun q hq => .inl hq⟩
set_option maxRecDepth 100000 in
theorem append_full (w : World) (x p g n cap : Nat) (s : Dk.DS) (lv : Value) (T : List (List UInt8)) (k : Nat) (D : List Nat) (base : Nat) (h : IsLog w x p g n cap s lv T k false D base) (A : Option Addr) (m c : Nat) (b : List UInt8) (hm : b.length = m) (hmb : m ≤ 100000) (hfull : n < k + needN m) :
    Calls Try.prog 21 #[.pointer (some ⟨x, 0, none⟩), .slice A m c] w (AppP w x p g n cap lv D base (appR n s T k false b)) := by
  have c35 := h.head.c35 (lastR_length T)
  have hR : appR n s T k false b = (12, s, T, k, false) := by
    unfold appR
    rw [if_neg (by simp), if_pos (by rw [hm]; exact hfull)]
  rw [hR]
  have H := Lib.hid h
  have few := h.disk.few
  have hk := h.hk
  have HND := Lib.hid (need_nat w m hmb)
  have HFR := Lib.hid (free_calls w x p g n cap s lv k (lastR T) false h.head h.disk few hk)
  have hI : (0 : Int) ≤ (m : Int) ∧ (m : Int) ≤ 100000 ∧ (n : Int) - (k : Int) < (needN m : Int) := by omega
  clear h hm hmb hR
  go_enter Try.func21, Try.ntmps21
  go_wp2_with (first
    | (go_at_call 9; (refine HND.out.mono ?_); rintro e w' ⟨rfl, rfl⟩)
    | (go_at_call 23; (refine HFR.out.mono ?_); rintro e w2 ⟨rfl, f2⟩; have F2 := Lib.hid f2; clear f2))
  go_ret
  exact ⟨lv, rfl, H.out.fr F2.out, F2.out.mono (by simp), fun q hq => .inl hq⟩
set_option maxRecDepth 100000 in
set_option maxHeartbeats 2000000 in
theorem append_room (w : World) (x p g n cap : Nat) (s : Dk.DS) (lv : Value) (T : List (List UInt8)) (k : Nat) (D : List Nat) (base : Nat) (h : IsLog w x p g n cap s lv T k false D base) (A : Option Addr) (m c : Nat) (b : List UInt8) (hm : b.length = m) (hmb : m ≤ 100000) (hmc : m ≤ c) (hA : Rd w A b) (hAx : 0 < b.length → ∀ q off, A = some ⟨q, off, none⟩ → q ≠ x ∧ q ≠ p ∧ q ≠ g)
    (hroom : k + needN m ≤ n) (hw : s.writes ≤ 990000) :
    Calls Try.prog 21 #[.pointer (some ⟨x, 0, none⟩), .slice A m c] w (AppP w x p g n cap lv D base (appR n s T k false b)) := by
  obtain ⟨hxg, hxp, hlx, hlp, hlg⟩ := h.xg
  have c35 := h.head.c35 (lastR_length T)
  obtain ⟨V1, V2, V3, rfl⟩ := h.rows.slice
  obtain rfl := h.rows.len
  have few := h.disk.few
  have hk := h.hk
  have hTk := h.hT
  have HND := Lib.hid (need_nat w m hmb)
  have HFR := Lib.hid (free_calls w x p g n cap s _ k (lastR T) false h.head h.disk few hk)
  have H := Lib.hid h
  obtain ⟨sum, hsum⟩ : ∃ sum, sumR (lastR T) T.length b = sum := ⟨_, rfl⟩
  have hsl : sum.length = 32 := hsum ▸ sumR_length _ _ _
  have HSM := Lib.hid (fun W (f : Fr [] w W) => (hsum ▸ sumOf_calls W (lastR T) (lastR_length T) T.length (by omega) A m c b hm (hA.fr f (by simp)) (by omega) : Calls Try.prog 36 #[.agg (u8s (lastR T)).toArray, .int .i64 (T.length : Int), .slice A m c] W (Agg (.agg (u8s sum).toArray) W)))
  have HDS := Lib.hid (digF sum hsl); have HXL := Lib.hid (h.hD x h.hx)
  have HDL := Lib.hid (digF (lastR T) (lastR_length T))
  have hI : (0 : Int) ≤ (m : Int) ∧ (m : Int) ≤ 100000 ∧ (needN m : Int) ≤ (n : Int) - (k : Int) := by omega
  have HNE := Lib.hid (And.intro hxg (And.intro hxp (And.intro hlx (And.intro hlp hlg))))
  have HSE := Lib.hid (fun W (f : Fr [] w W) => sectors_calls W [p, g] (fun y hy => Nat.lt_of_lt_of_le (by simp at hy; rcases hy with rfl | rfl; exact h.disk.lt.1; exact h.disk.lt.2) f.size) sum hsl T.length (by omega) A m c b hm (hA.fr f (by simp)) (by omega) hmc)
  have HSS := Lib.hid (And.intro hsum hsl)
  have HA := Lib.hid hA; have HAX := Lib.hid hAx; have HM := Lib.hid hm; have HMB := Lib.hid hmb; have HROOM := Lib.hid hroom; have HW := Lib.hid hw
  clear h hm hmb hA hAx hxg hxp hlx hlp hlg hsum hsl hroom hw hmc hTk
  go_enter Try.func21, Try.ntmps21
  go_upto_region 7 with (first
    | (go_at_call 9; (refine HND.out.mono ?_); rintro e w' ⟨rfl, rfl⟩)
    | (go_at_call 23; (refine HFR.out.mono ?_); rintro e w2 ⟨rfl, f2⟩; have F2 := Lib.hid f2; clear f2))
  go_cut [5] (fun v wc => ∃ y, v = .pointer (some ⟨y, 0, none⟩) ∧ Blk wc y 41 (u8s sum).toArray ∧ Fr [] w wc ∧ w.heap.size ≤ y)
  case first =>
    have H2 := Lib.hid (H.out.fr F2.out)
    have hS0 : LogB w2.drew x p (.slice V1 T.length V3) (k : Int) (lastR T) false := H2.out.head
    refine sqs_begin (fun w9 => LogB w9 x p (.slice V1 T.length V3) (k : Int) (lastR T) false) (by kernel_rfl) ?_
    refine sqs_take (i := 0) (v := (.pointer (some ⟨x, 0, none⟩))) (d := 24) rfl (by kernel_rfl) (by kernel_rfl) (by kernel_rfl) (by kernel_rfl) (by kernel_rfl) (fun _ _ _ h => h) ?_ (by assumption) ?_
    · intro w9 h9; kernel_rfl
    try simp only [Act.put, List.setIfInBounds_toArray, List.set_cons_zero, List.set_cons_succ]
    refine sqs_take (i := 1) (v := (.pointer (some ⟨x, 0, none⟩))) (d := 25) rfl (by kernel_rfl) (by kernel_rfl) (by kernel_rfl) (by kernel_rfl) (by kernel_rfl) (fun _ _ _ h => h) ?_ (by assumption) ?_
    · intro w9 h9; kernel_rfl
    try simp only [Act.put, List.setIfInBounds_toArray, List.set_cons_zero, List.set_cons_succ]
    refine sqs_take (i := 2) (v := (.pointer (some ⟨x, 3, none⟩))) (d := 26) rfl (by kernel_rfl) (by kernel_rfl) (by kernel_rfl) (by kernel_rfl) (by kernel_rfl) (fun _ _ _ h => h) ?_ (by assumption) ?_
    · intro w9 h9; kernel_rfl
    try simp only [Act.put, List.setIfInBounds_toArray, List.set_cons_zero, List.set_cons_succ]
    refine sqs_take (i := 3) (v := (.agg (u8s (lastR T)).toArray)) (d := 27) rfl (by kernel_rfl) (by kernel_rfl) (by kernel_rfl) (by kernel_rfl) (by kernel_rfl) (fun _ _ _ h => h) ?_ (by assumption) ?_
    · intro w9 h9; exact exec_load_agg rfl x 3 (by kernel_rfl) (u8s (lastR T)) _ (LogB.c3 h9) Try.underlying41 rfl HDL.out.2.1
    try simp only [Act.put, List.setIfInBounds_toArray, List.set_cons_zero, List.set_cons_succ]
    refine sqs_take (i := 4) (v := (.pointer (some ⟨x, 0, none⟩))) (d := 28) rfl (by kernel_rfl) (by kernel_rfl) (by kernel_rfl) (by kernel_rfl) (by kernel_rfl) (fun _ _ _ h => h) ?_ (by assumption) ?_
    · intro w9 h9; kernel_rfl
    try simp only [Act.put, List.setIfInBounds_toArray, List.set_cons_zero, List.set_cons_succ]
    refine sqs_take (i := 5) (v := (.pointer (some ⟨x, 0, none⟩))) (d := 29) rfl (by kernel_rfl) (by kernel_rfl) (by kernel_rfl) (by kernel_rfl) (by kernel_rfl) (fun _ _ _ h => h) ?_ (by assumption) ?_
    · intro w9 h9; kernel_rfl
    try simp only [Act.put, List.setIfInBounds_toArray, List.set_cons_zero, List.set_cons_succ]
    refine sqs_take (i := 6) (v := (.pointer (some ⟨x, 1, none⟩))) (d := 30) rfl (by kernel_rfl) (by kernel_rfl) (by kernel_rfl) (by kernel_rfl) (by kernel_rfl) (fun _ _ _ h => h) ?_ (by assumption) ?_
    · intro w9 h9; kernel_rfl
    try simp only [Act.put, List.setIfInBounds_toArray, List.set_cons_zero, List.set_cons_succ]
    refine sqs_take (i := 7) (v := (.slice V1 T.length V3)) (d := 31) rfl (by kernel_rfl) (by kernel_rfl) (by kernel_rfl) (by kernel_rfl) (by kernel_rfl) (fun _ _ _ h => h) ?_ (by assumption) ?_
    · intro w9 h9; exact exec_load_one rfl (by kernel_rfl) (.slice V1 T.length V3) (.slice 26) w9 (LogB.c1 h9) Try.underlying25 rfl
    try simp only [Act.put, List.setIfInBounds_toArray, List.set_cons_zero, List.set_cons_succ]
    refine sqs_take (i := 8) (v := (.int .i64 (T.length : Int))) (d := 32) rfl (by kernel_rfl) (by kernel_rfl) (by kernel_rfl) (by kernel_rfl) (by kernel_rfl) (fun _ _ _ h => h) ?_ (by assumption) ?_
    · intro w9 h9; kernel_rfl
    try simp only [Act.put, List.setIfInBounds_toArray, List.set_cons_zero, List.set_cons_succ]
    refine sqs_take (i := 9) (v := (.slice A m c)) (d := 33) rfl (by kernel_rfl) (by kernel_rfl) (by kernel_rfl) (by kernel_rfl) (by kernel_rfl) (fun _ _ _ h => h) ?_ (by assumption) ?_
    · intro w9 h9; kernel_rfl
    try simp only [Act.put, List.setIfInBounds_toArray, List.set_cons_zero, List.set_cons_succ]
    refine sqs_two (i := 10) (j := 11) rfl (by kernel_rfl) rfl (by kernel_rfl) (by kernel_rfl) ?_ ?_
    · have hr10 := fun (a₀ : Act) (o₀ : Oper) (K₀ : Act → World → Prop) (Q₀ : Exit → Act → World → Prop) => @sq_call Try.prog Q₀ a₀ o₀ w2.drew K₀ (Agg (.agg (u8s sum).toArray) w2.drew) 36 #[.agg (u8s (lastR T)).toArray, .int .i64 (T.length : Int), .slice A m c] 34
      refine hr10 _ _ _ _ ?_ ?_ ?_ ?_
      · kernel_rfl
      · kernel_rfl
      · exact (HSM.out w2.drew (F2.out.trans (Fr.refl [] w2).drew))
      rintro e w3 ⟨rfl, f3⟩
      have hS3 : LogB w3 x p (.slice V1 T.length V3) (k : Int) (lastR T) false := LogB.fr hS0 f3 (by simp)
      have F3 := ((F2.out.trans (Fr.refl [] w2).drew)).trans f3
      refine ⟨_, rfl, hS3, ?_⟩
      clear hr10
      try simp only [Act.put, List.setIfInBounds_toArray, List.set_cons_zero, List.set_cons_succ]
      refine sqs_only (i := 11) rfl (by kernel_rfl) (by kernel_rfl) ?_
      have hr11 := fun (a₀ : Act) (o₀ : Oper) (K₀ : Act → World → Prop) (Q₀ : Exit → Act → World → Prop) => @sq_val Try.prog Q₀ a₀ o₀ w3 K₀ (.pointer (some ⟨w3.heap.size, 0, none⟩)) (w3.alloc (.cells (zs 32).toArray 41)) 5
      refine hr11 _ _ _ _ ?_ ?_ ?_
      · kernel_rfl
      · exact ex_alloc_agg rfl arr32_zero
      clear hr11
      refine ⟨(LogB.fr hS3 ((Fr.refl [] w3).alloc _) (by simp)), ?_⟩
      try simp only [Act.put, List.setIfInBounds_toArray, List.set_cons_zero, List.set_cons_succ]
      obtain ⟨y, hy⟩ : ∃ y, w3.heap.size = y := ⟨_, rfl⟩
      obtain ⟨wa, hwa⟩ : ∃ W, w3.alloc (.cells (zs 32).toArray 41) = W := ⟨_, rfl⟩
      rw [hwa, hy]
      have f2 : Fr [] w3 wa := hwa ▸ (Fr.refl [] w3).alloc _
      have HB2 : Blk wa y 41 (zs 32).toArray := hwa ▸ hy ▸ Blk.new w3 _ _
      have hS2 : LogB wa x p (.slice V1 T.length V3) (k : Int) (lastR T) false := LogB.fr hS3 f2 (by simp)
      have F2x := (F3).trans f2
      have hyw : w.heap.size ≤ y := hy ▸ (F3).size
      refine sqs_only (i := 12) rfl (by kernel_rfl) (by kernel_rfl) ?_
      have hr12 := fun (a₀ : Act) (o₀ : Oper) (K₀ : Act → World → Prop) (Q₀ : Exit → Act → World → Prop) => @sq_store Try.prog Q₀ a₀ o₀ wa K₀ 41 (.tmp 5) (.tmp 34) y 0 (u8s sum) (zs 32) 41
      refine hr12 _ _ _ _ ?_ ?_ ?_ ?_ ?_ ?_ ?_ ?_ ?_
      · kernel_rfl
      · kernel_rfl
      · kernel_rfl
      · kernel_rfl
      · exact HB2
      · exact HDS.out.1
      · exact (u8s_one _)
      · exact HDS.out.2.1
      clear hr12
      rw [HDS.out.2.2]
      refine ⟨(LogB.fr hS2 ((Fr.refl [y] wa).setRow (.inl (by simp)) _) (by have := HXL.out; simp; omega)), ?_⟩
      try simp only [Act.put, List.setIfInBounds_toArray, List.set_cons_zero, List.set_cons_succ]
      refine wpAnyH_done (by kernel_rfl) ?_ _
      go_wp2_with fail
      go_meet
      exact ⟨y, rfl, Blk.setRow_ HB2 _, Fr.setRow F2x (.inr hyw) _, hyw⟩
    · have hr11 := fun (a₀ : Act) (o₀ : Oper) (K₀ : Act → World → Prop) (Q₀ : Exit → Act → World → Prop) => @sq_val Try.prog Q₀ a₀ o₀ w2.drew K₀ (.pointer (some ⟨w2.drew.heap.size, 0, none⟩)) (w2.drew.alloc (.cells (zs 32).toArray 41)) 5
      refine hr11 _ _ _ _ ?_ ?_ ?_
      · kernel_rfl
      · exact ex_alloc_agg rfl arr32_zero
      clear hr11
      refine ⟨(LogB.fr hS0 ((Fr.refl [] w2.drew).alloc _) (by simp)), ?_⟩
      try simp only [Act.put, List.setIfInBounds_toArray, List.set_cons_zero, List.set_cons_succ]
      obtain ⟨y, hy⟩ : ∃ y, w2.drew.heap.size = y := ⟨_, rfl⟩
      obtain ⟨wa, hwa⟩ : ∃ W, w2.drew.alloc (.cells (zs 32).toArray 41) = W := ⟨_, rfl⟩
      rw [hwa, hy]
      have f2 : Fr [] w2.drew wa := hwa ▸ (Fr.refl [] w2.drew).alloc _
      have HB2 : Blk wa y 41 (zs 32).toArray := hwa ▸ hy ▸ Blk.new w2.drew _ _
      have hS2 : LogB wa x p (.slice V1 T.length V3) (k : Int) (lastR T) false := LogB.fr hS0 f2 (by simp)
      have F2x := ((F2.out.trans (Fr.refl [] w2).drew)).trans f2
      have hyw : w.heap.size ≤ y := hy ▸ ((F2.out.trans (Fr.refl [] w2).drew)).size
      refine sqs_only (i := 10) rfl (by kernel_rfl) (by kernel_rfl) ?_
      have hr10 := fun (a₀ : Act) (o₀ : Oper) (K₀ : Act → World → Prop) (Q₀ : Exit → Act → World → Prop) => @sq_call Try.prog Q₀ a₀ o₀ wa K₀ (Agg (.agg (u8s sum).toArray) wa) 36 #[.agg (u8s (lastR T)).toArray, .int .i64 (T.length : Int), .slice A m c] 34
      refine hr10 _ _ _ _ ?_ ?_ ?_ ?_
      · kernel_rfl
      · kernel_rfl
      · exact (HSM.out wa F2x)
      rintro e w3 ⟨rfl, f3⟩
      have hS3 : LogB w3 x p (.slice V1 T.length V3) (k : Int) (lastR T) false := LogB.fr hS2 f3 (by simp)
      have F3 := (F2x).trans f3
      have HB3 := Blk.fr HB2 f3 (by simp)
      refine ⟨_, rfl, hS3, ?_⟩
      clear hr10
      try simp only [Act.put, List.setIfInBounds_toArray, List.set_cons_zero, List.set_cons_succ]
      refine sqs_only (i := 12) rfl (by kernel_rfl) (by kernel_rfl) ?_
      have hr12 := fun (a₀ : Act) (o₀ : Oper) (K₀ : Act → World → Prop) (Q₀ : Exit → Act → World → Prop) => @sq_store Try.prog Q₀ a₀ o₀ w3 K₀ 41 (.tmp 5) (.tmp 34) y 0 (u8s sum) (zs 32) 41
      refine hr12 _ _ _ _ ?_ ?_ ?_ ?_ ?_ ?_ ?_ ?_ ?_
      · kernel_rfl
      · kernel_rfl
      · kernel_rfl
      · kernel_rfl
      · exact HB3
      · exact HDS.out.1
      · exact (u8s_one _)
      · exact HDS.out.2.1
      clear hr12
      rw [HDS.out.2.2]
      refine ⟨(LogB.fr hS3 ((Fr.refl [y] w3).setRow (.inl (by simp)) _) (by have := HXL.out; simp; omega)), ?_⟩
      try simp only [Act.put, List.setIfInBounds_toArray, List.set_cons_zero, List.set_cons_succ]
      refine wpAnyH_done (by kernel_rfl) ?_ _
      go_wp2_with fail
      go_meet
      exact ⟨y, rfl, Blk.setRow_ HB3 _, Fr.setRow F3 (.inr hyw) _, hyw⟩
  case rest =>
    obtain ⟨y, rfl, hby, hfc, hyw⟩ := hcut
    have HBY := Lib.hid hby; have HFC := Lib.hid hfc; have HYW := Lib.hid hyw
    have HC := Lib.hid (H.out.fr hfc)
    have HCS := Lib.hid (rd_row hby)
    clear hby hfc hyw c35
    go_wp2_with fail
    have hS0 : LogB wc.drew x p (.slice V1 T.length V3) (k : Int) (lastR T) false ∧ ∀ j u, (u8s sum)[j]? = some u → wc.drew.cell? ⟨y, 0 + j, none⟩ = some u := ⟨HC.out.head, HCS.out⟩
    refine sqs_begin (fun w9 => LogB w9 x p (.slice V1 T.length V3) (k : Int) (lastR T) false ∧ ∀ j u, (u8s sum)[j]? = some u → w9.cell? ⟨y, 0 + j, none⟩ = some u) (by kernel_rfl) ?_
    refine sqs_take (i := 0) (v := (.pointer (some ⟨x, 0, none⟩))) (d := 35) rfl (by kernel_rfl) (by kernel_rfl) (by kernel_rfl) (by kernel_rfl) (by kernel_rfl) (fun _ _ _ h => h) ?_ (by assumption) ?_
    · intro w9 h9; kernel_rfl
    try simp only [Act.put, List.setIfInBounds_toArray, List.set_cons_zero, List.set_cons_succ]
    refine sqs_take (i := 1) (v := (.pointer (some ⟨x, 0, none⟩))) (d := 36) rfl (by kernel_rfl) (by kernel_rfl) (by kernel_rfl) (by kernel_rfl) (by kernel_rfl) (fun _ _ _ h => h) ?_ (by assumption) ?_
    · intro w9 h9; kernel_rfl
    try simp only [Act.put, List.setIfInBounds_toArray, List.set_cons_zero, List.set_cons_succ]
    refine sqs_take (i := 2) (v := (.pointer (some ⟨x, 1, none⟩))) (d := 37) rfl (by kernel_rfl) (by kernel_rfl) (by kernel_rfl) (by kernel_rfl) (by kernel_rfl) (fun _ _ _ h => h) ?_ (by assumption) ?_
    · intro w9 h9; kernel_rfl
    try simp only [Act.put, List.setIfInBounds_toArray, List.set_cons_zero, List.set_cons_succ]
    refine sqs_take (i := 3) (v := (.slice V1 T.length V3)) (d := 38) rfl (by kernel_rfl) (by kernel_rfl) (by kernel_rfl) (by kernel_rfl) (by kernel_rfl) (fun _ _ _ h => h) ?_ (by assumption) ?_
    · intro w9 h9; exact exec_load_one rfl (by kernel_rfl) (.slice V1 T.length V3) (.slice 26) w9 (LogB.c1 h9.1) Try.underlying25 rfl
    try simp only [Act.put, List.setIfInBounds_toArray, List.set_cons_zero, List.set_cons_succ]
    refine sqs_take (i := 4) (v := (.int .i64 (T.length : Int))) (d := 39) rfl (by kernel_rfl) (by kernel_rfl) (by kernel_rfl) (by kernel_rfl) (by kernel_rfl) (fun _ _ _ h => h) ?_ (by assumption) ?_
    · intro w9 h9; kernel_rfl
    try simp only [Act.put, List.setIfInBounds_toArray, List.set_cons_zero, List.set_cons_succ]
    refine sqs_take (i := 5) (v := (.slice A m c)) (d := 40) rfl (by kernel_rfl) (by kernel_rfl) (by kernel_rfl) (by kernel_rfl) (by kernel_rfl) (fun _ _ _ h => h) ?_ (by assumption) ?_
    · intro w9 h9; kernel_rfl
    try simp only [Act.put, List.setIfInBounds_toArray, List.set_cons_zero, List.set_cons_succ]
    refine sqs_take (i := 6) (v := (.agg (u8s sum).toArray)) (d := 41) rfl (by kernel_rfl) (by kernel_rfl) (by kernel_rfl) (by kernel_rfl) (by kernel_rfl) (fun _ _ _ h => h) ?_ (by assumption) ?_
    · intro w9 h9; exact exec_load_agg rfl y 0 (by kernel_rfl) (u8s sum) _ h9.2 Try.underlying41 rfl HDS.out.2.1
    try simp only [Act.put, List.setIfInBounds_toArray, List.set_cons_zero, List.set_cons_succ]
    refine sqs_only (i := 7) rfl (by kernel_rfl) (by kernel_rfl) ?_
    have hr7 := fun (a₀ : Act) (o₀ : Oper) (K₀ : Act → World → Prop) (Q₀ : Exit → Act → World → Prop) => @sq_call Try.prog Q₀ a₀ o₀ wc.drew K₀ (fun e w' => ∃ v, e = .returned v ∧ TxRow w' v [p, g] wc.drew.heap.size (secT T.length b sum) ∧ Fr [] wc.drew w') 37 #[.int .i64 (T.length : Int), .slice A m c, .agg (u8s sum).toArray] 42
    refine hr7 _ _ _ _ ?_ ?_ ?_ ?_
    · kernel_rfl
    · kernel_rfl
    · exact (HSE.out wc.drew (HFC.out.trans (Fr.refl [] wc).drew))
    rintro e w3 ⟨vS, rfl, ht3, f3⟩
    have hS3 : LogB w3 x p (.slice V1 T.length V3) (k : Int) (lastR T) false ∧ ∀ j u, (u8s sum)[j]? = some u → w3.cell? ⟨y, 0 + j, none⟩ = some u := ⟨LogB.fr hS0.1 f3 (by simp), rd_row ((Blk.drew HBY.out).fr f3 (by simp))⟩
    refine ⟨_, rfl, hS3, ?_⟩
    clear hr7
    try simp only [Act.put, List.setIfInBounds_toArray, List.set_cons_zero, List.set_cons_succ]
    refine sqs_take (i := 8) (v := vS) (d := 6) rfl (by kernel_rfl) (by kernel_rfl) (by kernel_rfl) (by kernel_rfl) (by kernel_rfl) (fun _ _ _ h => h) ?_ (by assumption) ?_
    · intro w9 h9; kernel_rfl
    try simp only [Act.put, List.setIfInBounds_toArray, List.set_cons_zero, List.set_cons_succ]
    refine wpAnyH_done (by kernel_rfl) ?_ _
    clear hS3 hS0
    obtain ⟨ST, hST⟩ : ∃ ST, secT T.length b sum = ST := ⟨_, rfl⟩
    have hSTl : ST.length = needN m := by rw [← hST, secT_length _ _ _ (by rw [HM.out]; exact HMB.out), HM.out]
    have hST64 : ∀ t ∈ ST, t.length = 64 := hST ▸ secT_64 _ _ _ HSS.out.2
    rw [hST] at ht3
    have hpos : 0 < ST.length := by rw [hSTl]; exact needN_pos m HMB.out
    obtain ⟨ra, c9, rfl⟩ := ht3.form hpos
    obtain ⟨N, hN⟩ : ∃ N, ST.length = N := ⟨_, rfl⟩
    rw [hN] at ht3 ⊢
    have F3 := Lib.hid ((HFC.out.trans (Fr.refl [] wc).drew).trans f3)
    have F3c := Lib.hid ((Fr.refl [] wc).drew.trans f3)
    have H3 := Lib.hid (HC.out.fr F3c.out)
    obtain ⟨s5, e5, hRW⟩ : ∃ s5 e5, wrAll n s (logW n k ST) = (s5, e5) := ⟨_, _, rfl⟩
    have hWR := logwrite_calls w3 x p g n cap s (.slice V1 T.length V3) k (lastR T) false H3.out.head H3.out.disk [p, g] _ ra N c9 ST ht3 hN (by omega) hST64 (by simp) (by simp) HNE.out.1 (by have := HW.out; have := HROOM.out; omega) (by omega)
    rw [hRW] at hWR
    have HWR := Lib.hid hWR
    have hR1 : appR n s T k false b = if e5 = 0 then (0, s5, T ++ [b], k + needN m, false) else (e5, s5, T, k, true) := by
      unfold appR
      rw [if_neg (by simp), HM.out, if_neg (by have := HROOM.out; omega), HSS.out.1, hST, hRW]
    have HR1 := Lib.hid hR1
    clear hST hSTl hST64 hpos hN hRW hWR hR1 ht3 f3
    have HLW := Lib.hid (fun w5 (f : Fr [p, g] w3 w5) => LogB.fr H3.out.head f (by simp [HNE.out.1, HNE.out.2.1]))
    have HBW := Lib.hid (fun w5 (f : Fr [p, g] w3 w5) => Blk.fr (Blk.fr HBY.out F3c.out (by simp)) f (by have := H.out.hD p H.out.hp; have := H.out.hD g H.out.hg; have := HYW.out; simp; omega))
    have HTW := Lib.hid (fun w5 (f : Fr [p, g] w3 w5) => TxRow.fr H3.out.rows f (fun q hq => .inl (by simp at hq; rcases hq with rfl | rfl; exact H.out.hp; exact H.out.hg)) (fun q hq hm => by simp at hm; rcases hm with rfl | rfl; exact HNE.out.2.2.2.1 hq; exact HNE.out.2.2.2.2 hq))
    have HTK := Lib.hid (fun w5 (f : Fr [p, g] w3 w5) => take_calls08 w5 x p (.slice V1 T.length V3) k (lastR T) sum false D base T (fun q hq => Nat.lt_of_lt_of_le (H3.out.hD q hq) f.size) H.out.hx (HLW.out w5 f) (HTW.out w5 f) (lastR_length T) HSS.out.2 A m c b HM.out ((HA.out.fr F3.out (by simp)).fr0 f (fun hl q off hq hm => by have := HAX.out hl q off hq; simp at hm; omega)) (fun hl q off hq hm => by have := HAX.out hl q off hq; simp at hm; omega) HMB.out (by omega) (by have := H.out.hT; omega) (Nat.le_trans H3.out.hb f.size))
    by_cases h0 : e5 = 0
    · subst h0
      go_wp2_with (first
        | (go_at_call 38; (refine HWR.out.mono ?_); rintro e w5 ⟨rfl, hd5, f5⟩; have HD5 := Lib.hid hd5; have F5 := Lib.hid f5; have HL5 := HLW.out w5 f5; have HCS5 := Lib.hid (rd_row (HBW.out w5 f5)); have c35 := HL5.c35 (lastR_length T); have fz35 := Blk.frozen HL5 35; clear hd5 f5)
        | (refine wpList_wanted (v := .agg (u8s sum).toArray) (by kernel_rfl) (exec_load_agg (ty := 41) (x := .tmp 5) rfl y 0 rfl (u8s sum) _ HCS5.out Try.underlying41 rfl HDS.out.2.1) ?_)
        | (go_at_call 39; (refine (HTK.out w5 F5.out).mono ?_); rintro e w6 ⟨u, v', rfl, hl6, ht6, f6, hk6⟩; have HL6 := Lib.hid hl6; have HT6 := Lib.hid ht6; have F6 := Lib.hid f6; have HK6 := Lib.hid hk6; clear hl6 ht6 f6 hk6))
      go_ret
      have hR := HR1.out
      rw [if_pos trivial] at hR
      rw [hR]
      have hF : Fr (x :: p :: g :: (Value.slice V1 T.length V3).ownBlock.toList) w w6 := ((F3.out.mono (T := x :: p :: g :: (Value.slice V1 T.length V3).ownBlock.toList) (by simp)).trans' F5.out (fun q hq => .inl (by simp at hq; rcases hq with rfl | rfl <;> simp))).trans' F6.out (fun q hq => .inl (by rcases List.mem_cons.1 hq with rfl | hq; simp; simp [hq]))
      refine ⟨v', rfl, ⟨?_, HD5.out.fr F6.out ?_ ?_, HT6.out, by have := HROOM.out; simp only; omega, ?_, ?_, H.out.hx, H.out.hp, H.out.hg, fun q hq => Nat.lt_of_lt_of_le (H.out.hD q hq) hF.size, Nat.le_trans H.out.hb hF.size⟩, hF, fun q hq => ?_⟩
      · show LogB w6 x p v' ((k + needN m : Nat) : Int) (lastR (T ++ [b])) false
        rw [lastR_snoc, HSS.out.1]
        exact HL6.out
      · intro hm
        rcases List.mem_cons.1 hm with h | h
        · exact HNE.out.2.1 h.symm
        · exact HNE.out.2.2.2.1 (by simpa using h)
      · intro hm
        rcases List.mem_cons.1 hm with h | h
        · exact HNE.out.1 h.symm
        · exact HNE.out.2.2.2.2 (by simpa using h)
      · have := needN_pos m HMB.out
        have := H.out.hT
        simp only [List.length_append, List.length_singleton]
        omega
      · intro t ht
        rcases List.mem_append.1 ht with ht | ht
        · exact H.out.hs t ht
        · simp at ht
          subst ht
          rw [HM.out]
          exact HMB.out
      · rcases HK6.out q hq with h | h
        · exact .inl h
        · exact .inr (Nat.le_trans (F3.out.size) (Nat.le_trans F5.out.size h))
    · have hb0 : (e5 != 0) = true := by simpa using h0
      go_wp2_with (go_at_call 38; (refine HWR.out.mono ?_); rintro e w5 ⟨rfl, hd5, f5⟩; have HD5 := Lib.hid hd5; have F5 := Lib.hid f5; have HL5 := HLW.out w5 f5; have HCS5 := Lib.hid (rd_row (HBW.out w5 f5)); have c35 := HL5.c35 (lastR_length T); have fz35 := Blk.frozen HL5 35; clear hd5 f5)
      go_ret
      have hR := HR1.out
      rw [if_neg h0] at hR
      rw [hR]
      have f6 : Fr [x] w5 (w5.setCell ⟨x, 35, none⟩ (.bool true)) := (Fr.refl [x] w5).setCell (.inl (by simp)) _
      have hF : Fr (x :: p :: g :: (Value.slice V1 T.length V3).ownBlock.toList) w (w5.setCell ⟨x, 35, none⟩ (.bool true)) := ((F3.out.mono (T := x :: p :: g :: (Value.slice V1 T.length V3).ownBlock.toList) (by simp)).trans' F5.out (fun q hq => .inl (by simp at hq; rcases hq with rfl | rfl <;> simp))).trans' f6 (fun q hq => .inl (by simp at hq; simp [hq]))
      refine ⟨_, rfl, ⟨?_, HD5.out.fr f6 (by simp; exact fun e => HNE.out.2.1 e.symm) (by simp; exact fun e => HNE.out.1 e.symm), (HTW.out w5 F5.out).fr f6 (fun q hq => .inl (by simp at hq; subst hq; exact H.out.hx)) (fun q hq hm => by simp at hm; subst hm; exact HNE.out.2.2.1 hq), H.out.hk, H.out.hT, H.out.hs, H.out.hx, H.out.hp, H.out.hg, fun q hq => Nat.lt_of_lt_of_le (H.out.hD q hq) hF.size, Nat.le_trans H.out.hb hF.size⟩, hF, fun q hq => .inl hq⟩
      have := Blk.set_ HL5 35 (.bool true)
      rw [logC_setb' _ _ _ _ _ _ (lastR_length T)] at this
      exact this
theorem append_calls (w : World) (x p g n cap : Nat) (s : Dk.DS) (lv : Value) (T : List (List UInt8)) (k : Nat) (br : Bool) (D : List Nat) (base : Nat) (h : IsLog w x p g n cap s lv T k br D base) (A : Option Addr) (m c : Nat) (b : List UInt8) (hm : b.length = m) (hmb : m ≤ 100000) (hmc : m ≤ c) (hA : Rd w A b) (hAx : 0 < b.length → ∀ q off, A = some ⟨q, off, none⟩ → q ≠ x ∧ q ≠ p ∧ q ≠ g) (hw : s.writes ≤ 990000) :
    Calls Try.prog 21 #[.pointer (some ⟨x, 0, none⟩), .slice A m c] w (AppP w x p g n cap lv D base (appR n s T k br b)) := by
  cases br with
  | true => exact append_broken w x p g n cap s lv T k D base h _ b
  | false =>
    rcases Nat.lt_or_ge n (k + needN m) with hf | hf
    · exact append_full w x p g n cap s lv T k D base h A m c b hm hmb hf
    · exact append_room w x p g n cap s lv T k D base h A m c b hm hmb hmc hA hAx hf hw
end Go.Proofs.Ytmmjihkcofgmmaa
