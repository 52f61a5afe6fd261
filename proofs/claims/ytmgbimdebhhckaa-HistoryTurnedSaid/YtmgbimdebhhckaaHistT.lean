/- History's law: Clash. -/
import Derived.Test.YtmgbimdebhhckaaHistS
namespace Go.Proofs.Ytmgbimdebhhckaa
open Go.RowKit
set_option linter.unusedVariables false

theorem ex_neq_str {P : Program} {a : Act} {o : Oper} {w : World} {x y : Operand} {t yt : TypeId} {la lb : List UInt8} {v : Bool} (ho : o.op = .binOp .neq t x y yt) (h1 : a.eval x = .string (str la)) (h2 : a.eval y = .string (str lb)) (hv : (la == lb) = !v) :
    (execOp a.eval o).run P w = .ok (.value (.bool v)) w := by
  unfold execOp
  simp [ho, h1, h2, eqGuard, binOp, Op.stringOp, str_toList, hv]
def clP (a b : List UInt8) : Bool := (shaB a == shaB b) && !(a == b)
def clI (T : List (List UInt8)) (i k : Nat) : Bool := clP (T.getD i []) (T.getD k [])
def clashB (T : List (List UInt8)) : Bool := (List.range T.length).any fun i => (List.range i).any fun k => clI T i k
theorem clashB_true {T : List (List UInt8)} {i k : Nat} (hi : i < T.length) (hk : k < i) (h : clI T i k = true) : clashB T = true := by
  unfold clashB
  rw [List.any_eq_true]
  refine ⟨i, by simpa using hi, ?_⟩
  rw [List.any_eq_true]
  exact ⟨k, by simpa using hk, h⟩
theorem clashB_false {T : List (List UInt8)} (h : ∀ i k, i < T.length → k < i → clI T i k = false) : clashB T = false := by
  rw [← Bool.not_eq_true, clashB, List.any_eq_true]
  rintro ⟨i, hi, h1⟩
  rw [List.any_eq_true] at h1
  obtain ⟨k, hk, h2⟩ := h1
  rw [h i k (by simpa using hi) (by simpa using hk)] at h2
  cases h2
theorem clashB_iff (T : List (List UInt8)) : clashB T = true ↔ clashL T := by
  constructor
  · intro h
    rw [clashB, List.any_eq_true] at h
    obtain ⟨i, hi, h1⟩ := h
    rw [List.any_eq_true] at h1
    obtain ⟨k, hk, h2⟩ := h1
    simp only [List.mem_range] at hi hk
    simp only [clI, clP, List.getD_eq_getElem?_getD, List.getElem?_eq_getElem hi, List.getElem?_eq_getElem (show k < T.length by omega), Option.getD_some, Bool.and_eq_true, beq_iff_eq, Bool.not_eq_true', beq_eq_false_iff_ne] at h2
    exact ⟨_, List.getElem_mem hi, _, List.getElem_mem (show k < T.length by omega), h2.1, h2.2⟩
  · rintro ⟨s, hs, t, ht, e, hne⟩
    obtain ⟨i, hi, rfl⟩ := List.getElem_of_mem hs
    obtain ⟨k, hk, rfl⟩ := List.getElem_of_mem ht
    rcases Nat.lt_trichotomy i k with h | h | h
    · refine clashB_true hk h ?_
      simp only [clI, clP, List.getD_eq_getElem?_getD, List.getElem?_eq_getElem hi, List.getElem?_eq_getElem hk, Option.getD_some, Bool.and_eq_true, beq_iff_eq, Bool.not_eq_true', beq_eq_false_iff_ne]
      exact ⟨e.symm, fun h => hne h.symm⟩
    · subst h; exact absurd rfl hne
    · refine clashB_true hi h ?_
      simp only [clI, clP, List.getD_eq_getElem?_getD, List.getElem?_eq_getElem hi, List.getElem?_eq_getElem hk, Option.getD_some, Bool.and_eq_true, beq_iff_eq, Bool.not_eq_true', beq_eq_false_iff_ne]
      exact ⟨e, hne⟩
theorem wpList_appDg {ops : Array Oper} {rest : List Oper} {o : Oper} {a : Act} {w : World} {Q : Exit → Act → World → Prop} (hgd : o.guard = none) (s x : Operand) (d : Tmp) (hd : o.dst = some d)
    (ho : o.op = .call { callee := .builtin .append, args := #[s, x], argTypes := #[22, 22] })
    (base : Nat) (v : Value) (ps : List (List UInt8)) (hs : a.eval s = v) (hown : w.ownsRow base 25 32 v ps.length (ps.flatMap u8s)) (r : List UInt8) (hr : r.length = 32) (g c : Nat)
    (hx : a.eval x = .slice (some ⟨g, 0, none⟩) 1 c) (hg : Blk w g 25 (u8s r).toArray) (hbd : ps.length ≤ 100000) (hbase : base ≤ w.heap.size)
    (h : ∀ v' w', w'.ownsRow base 25 32 v' (ps ++ [r]).length ((ps ++ [r]).flatMap u8s) → Fr v.ownBlock.toList w w' → wpList Try.prog ops Q rest (a.put (some d) v') w') : wpList Try.prog ops Q (o :: rest) a w :=
  wpList_plain hgd fun K hK => sq_appDg (K := K) hgd s x d hd ho base v ps hs hown r hr g c hx hg hbd hbase (fun v' w' h1 h2 => hK _ _ (h v' w' h1 h2))
theorem flat32 : ∀ (ps : List (List UInt8)), (∀ p ∈ ps, p.length = 32) → ∀ (i j : Nat) (d : List UInt8) (v : Value), ps[i]? = some d → (u8s d)[j]? = some v → (ps.flatMap u8s)[i * 32 + j]? = some v := by
  intro ps
  induction ps with
  | nil => intro _ i j d v h; simp at h
  | cons p ps ih =>
    intro hp i j d v h hv
    have h32 : (u8s p).length = 32 := by simp [hp p (by simp)]
    cases i with
    | zero =>
      simp at h; subst h
      have hj : j < (u8s p).length := (List.getElem?_eq_some_iff.1 hv).1
      rw [Nat.zero_mul, Nat.zero_add, List.flatMap_cons, List.getElem?_append_left hj]; exact hv
    | succ i =>
      simp at h
      rw [List.flatMap_cons, List.getElem?_append_right (by omega), h32, show (i + 1) * 32 + j - 32 = i * 32 + j by omega]
      exact ih (fun q hq => hp q (by simp [hq])) i j d v h hv
/-- a row of digests of the call's own, as the reader sees it -/
theorem own_dg {w : World} {base : Nat} {v : Value} {n : Nat} {ps : List (List UInt8)} (hp : ∀ p ∈ ps, p.length = 32) (h : w.ownsRow base 25 32 v n (ps.flatMap u8s)) (hn : ps.length = n) :
    ∃ A c, v = .slice A n c ∧ n ≤ c ∧ DgIn w A ps ∧ ∀ b off, A = some ⟨b, off, none⟩ → base ≤ b := by
  rcases h.2 with ⟨rfl, h0⟩ | ⟨g, cap, cur, rfl, hb, hg, hnc, _, hsz, htk⟩
  · subst h0
    have : ps = [] := List.eq_nil_of_length_eq_zero hn
    subst this
    exact ⟨none, 0, rfl, Nat.le_refl _, fun i d hd => by simp at hd, by simp⟩
  · refine ⟨_, cap, rfl, hnc, fun i d hd => ?_, fun b off hA => by injection hA with hA; injection hA with hA _ _; omega⟩
    obtain ⟨hi, _⟩ := List.getElem?_eq_some_iff.1 hd
    refine ⟨hp d (List.mem_of_getElem? hd), g, 0, rfl, (Array.getElem?_eq_some_iff.1 hg).1, fun j u hu => ?_⟩
    have hd32 : d.length = 32 := hp d (List.mem_of_getElem? hd)
    have hj : j < 32 := by
      have := (List.getElem?_eq_some_iff.1 hu).1
      simpa [hd32] using this
    have h1 := flat32 ps hp i j d u hd hu
    rw [Nat.zero_add]
    have h2 := h.cellAt (i * 32 + j) (by omega)
    rw [h2]; exact h1
def ClashP (w : World) (T : List (List UInt8)) (e : Ending) (w' : World) : Prop := e = .returned (.bool (clashB T)) ∧ Fr [] w w'
set_option maxHeartbeats 4000000 in
theorem Clash_calls (w : World) (TA : Option Addr) (n c : Nat) (T : List (List UInt8)) (hn : T.length = n) (hT : TxIn w TA T) (hs : ∀ t ∈ T, t.length ≤ 1000) (hb : n ≤ 10000) :
    Calls Try.prog 17 #[.slice TA n c] w (ClashP w T) := by
  have HT := Lib.hid hT; have HN := Lib.hid hn; have HS := Lib.hid hs
  have hnI : (0 : Int) ≤ (n : Int) ∧ (n : Int) ≤ 10000 := by omega
  clear hT hn hs
  go_enter Try.func17, Try.ntmps17
  go_wp2
  go_loopg [3, 4] n (fun gg v u wr => ∃ k : Nat, k ≤ n ∧ gg = n - k ∧ u = .int .i64 k ∧ wr.ownsRow w.heap.size 25 32 v ((T.take k).map shaB).length (((T.take k).map shaB).flatMap u8s) ∧ Fr [] w wr)
  case atStart => exact ⟨0, by omega, by omega, rfl, World.ownsRow_nil _ _ _ _, Fr.refl _ _⟩
  case round =>
    obtain ⟨k, hk, rfl, rfl, ho, hf⟩ := hrel
    have HO := Lib.hid ho; have HF := Lib.hid hf
    clear ho hf
    by_cases hlt : k < n
    · obtain ⟨t, ht⟩ : ∃ t, T[k]? = some t := ⟨T[k]'(by have := HN.out; omega), by simp⟩
      obtain ⟨b, off, A, ct, hA, hbw, hc0, hr⟩ := HT.out k t ht
      subst hA
      have hc : wr.cell? ⟨b, off + k, none⟩ = some (.slice A t.length ct) := by rw [HF.out.cell (p := ⟨b, off + k, none⟩) hbw (by simp)]; exact hc0
      have hix := fun w' => ix_sl0 (P := Try.prog) (b := b) (off := off) (n := n) (c := c) Try.underlying37 size_sl hlt w'
      have HSM := Lib.hid (sum_calls wr A t.length ct t rfl (hr.fr HF.out (by simp)) (by have := HS.out t (List.mem_of_getElem? ht); omega))
      have HST := Lib.hid (show (T.take (k + 1)).map shaB = (T.take k).map shaB ++ [shaB t] by
        obtain ⟨hk', he⟩ := List.getElem?_eq_some_iff.1 ht
        rw [List.take_succ_eq_append_getElem hk', he, List.map_append]; rfl)
      have HKL := Lib.hid (show ((T.take k).map shaB).length ≤ 100000 by simp; omega)
      have hkI : (0 : Int) ≤ (k : Int) ∧ (k : Int) < (n : Int) := by omega
      clear hc0 hr ht hbw
      go_wp2_with (first
        | (go_at_call 20; (with_reducible refine HSM.out.mono ?_); rintro e w2 ⟨rfl, f2⟩; have F2 := Lib.hid (HF.out.trans f2); have HO2 := Lib.hid (own_fr HO.out f2 (by simp)); clear f2 hc)
        | (refine wpList_wanted (v := .slice (some ⟨w2.heap.size, 0, none⟩) 1 1) (w' := w2.alloc (.cells (u8s (shaB t)).toArray 25)) (by rfl) (ex_build_dg rfl w2 (shaB t) (shaB_length t) rfl) ?_)
        | (at_builtin; refine wpList_appDg rfl (.tmp 13) (.tmp 19) 20 rfl rfl w.heap.size _ ((T.take k).map shaB) rfl (HO2.out.alloc _) (shaB t) (shaB_length t) w2.heap.size 1 rfl (Blk.new w2 _ _) HKL.out (by simp; have := F2.out.size; omega) ?_; intro v5 w5 ho5 hf5; have HO5 := Lib.hid ho5; have HF5 := Lib.hid ((F2.out.alloc (.cells (u8s (shaB t)).toArray 25)).trans' hf5 (fun x hx => by simp only [Option.mem_toList] at hx; exact .inr (HO2.out.lt x hx).1)); clear ho5 hf5))
      go_roundg (n - (k + 1))
      case measure => omega
      case rel => exact ⟨k + 1, by omega, rfl, by go_num, by rw [HST.out]; exact HO5.out, HF5.out⟩
    · obtain rfl : n = k := by omega
      have e : T.take n = T := List.take_of_length_le (by have := HN.out; omega)
      have ho := HO.out
      rw [e] at ho
      obtain ⟨AS, cS, rfl, hcS, hDS, _⟩ := own_dg (fun p hp => by simp at hp; obtain ⟨t, _, rfl⟩ := hp; exact shaB_length t) ho rfl
      rw [show (T.map shaB).length = n by simp; exact HN.out] at hcS ⊢
      have HDS := Lib.hid hDS
      clear ho hDS e hlt hk HO
      rename World => wB
      go_wp2
      go_loopg [5] n (fun gg u w1 => ∃ i : Nat, i ≤ n ∧ gg = n - i ∧ u = .int .i64 i ∧ (∀ i' k', i' < i → k' < i' → clI T i' k' = false) ∧ Fr [] wB w1)
      case atStart => exact ⟨0, by omega, by omega, rfl, by omega, Fr.refl _ _⟩
      case round =>
        obtain ⟨i, hi, rfl, rfl, hno, hf1⟩ := hrel
        have HNO := Lib.hid hno; have HF1 := Lib.hid hf1
        clear hno hf1
        by_cases hlt : i < n
        · have hdi : decide ((i : Int) < (n : Int)) = true := decide_eq_true (by omega)
          obtain ⟨ti, hti⟩ : ∃ t, T[i]? = some t := ⟨T[i]'(by have := HN.out; omega), by simp⟩
          obtain ⟨bT, oT, Ai, ci, hA, hbw, hc0, hr⟩ := HT.out i ti hti
          subst hA
          obtain ⟨_, bS, oS, hA, hbs, hcs⟩ := HDS.out i (shaB ti) (by rw [List.getElem?_map, hti]; rfl)
          subst hA
          have HTI0 := Lib.hid (fun (w2 : World) (h2 : Fr [] wB w2) w9 (h9 : OldW w2 w9) => (show w9.cell? ⟨bT, oT + i, none⟩ = some (.slice Ai ti.length ci) ∧ Rd w9 Ai ti from by
            have hf := (HF.out.trans h2).trans h9
            exact ⟨by rw [hf.cell (p := ⟨bT, oT + i, none⟩) hbw (by simp)]; exact hc0, hr.fr hf (by simp)⟩))
          have HCI0 := Lib.hid (fun (w2 : World) (h2 : Fr [] wB w2) w9 (h9 : OldW w2 w9) => (fun j v hv => by
            rw [(h2.trans h9).cell (p := ⟨bS, oS + i * 32 + j, none⟩) hbs (by simp)]; exact hcs j v hv : ∀ j v, (u8s (shaB ti))[j]? = some v → w9.cell? ⟨bS, oS + i * 32 + j, none⟩ = some v))
          have HDI := Lib.hid (dig_size _ (shaB_length ti))
          have HIX := Lib.hid (fun w9 => run_index_slice' (P := Try.prog) (t := 22) (size := 32) w9 Try.underlying22 dg_size (A := some ⟨bS, oS, none⟩) (n := n) (c := cS) (j := i) rfl hlt)
          have HIT := Lib.hid (fun w' => ix_sl0 (P := Try.prog) (b := bT) (off := oT) (n := n) (c := c) Try.underlying37 size_sl hlt w')
          have HTIE := Lib.hid hti; have HIN := Lib.hid hlt
          have hiI : (0 : Int) ≤ (i : Int) ∧ (i : Int) < (n : Int) := by omega
          clear hti hbw hc0 hr hbs hcs
          rename World => wC
          go_wp2
          go_loopg [6] i (fun gg u w2 => ∃ j : Nat, j ≤ i ∧ gg = i - j ∧ u = .int .i64 j ∧ (∀ k', k' < j → clI T i k' = false) ∧ Fr [] wB w2)
          case atStart => exact ⟨0, by omega, by omega, rfl, by omega, HF1.out⟩
          case round =>
            obtain ⟨j, hj, rfl, rfl, hno2, hf2⟩ := hrel
            have HNO2 := Lib.hid hno2; have HF2 := Lib.hid hf2
            clear hno2 hf2
            by_cases hjt : j < i
            · obtain ⟨tj, htj⟩ : ∃ t, T[j]? = some t := ⟨T[j]'(by have := HN.out; omega), by simp⟩
              have HTI := Lib.hid (HTI0.out wr HF2.out); have HCI := Lib.hid (HCI0.out wr HF2.out)
              obtain ⟨bT', oT', Aj, cj, hA, hbw, hc0, hr⟩ := HT.out j tj htj
              injection hA with hA
              injection hA with hA1 hA2 _
              subst hA1 hA2
              obtain ⟨_, bS', oS', hA, hbs, hcs⟩ := HDS.out j (shaB tj) (by rw [List.getElem?_map, htj]; rfl)
              injection hA with hA
              injection hA with hA1 hA2 _
              subst hA1 hA2
              have HTJ := Lib.hid (fun w9 (h9 : OldW wr w9) => (show w9.cell? ⟨bT, oT + j, none⟩ = some (.slice Aj tj.length cj) ∧ Rd w9 Aj tj from by
                have hf := (HF.out.trans HF2.out).trans h9
                exact ⟨by rw [hf.cell (p := ⟨bT, oT + j, none⟩) hbw (by simp)]; exact hc0, hr.fr hf (by simp)⟩))
              have HCJ := Lib.hid (fun w9 (h9 : OldW wr w9) => (fun k v hv => by
                rw [(HF2.out.trans h9).cell (p := ⟨bS, oS + j * 32 + k, none⟩) hbs (by simp)]; exact hcs k v hv : ∀ k v, (u8s (shaB tj))[k]? = some v → w9.cell? ⟨bS, oS + j * 32 + k, none⟩ = some v))
              have HDJ := Lib.hid (dig_size _ (shaB_length tj))
              have HJX := Lib.hid (fun w9 => run_index_slice' (P := Try.prog) (t := 22) (size := 32) w9 Try.underlying22 dg_size (A := some ⟨bS, oS, none⟩) (n := n) (c := cS) (j := j) rfl (by omega))
              have HJT := Lib.hid (fun w' => ix_sl0 (P := Try.prog) (b := bT) (off := oT) (n := n) (c := c) (j := j) Try.underlying37 size_sl (by omega) w')
              have HCL := Lib.hid (show clI T i j = ((shaB ti == shaB tj) && !(ti == tj)) by unfold clI clP; rw [List.getD_eq_getElem?_getD, List.getD_eq_getElem?_getD, HTIE.out, htj]; rfl)
              have hjI : (0 : Int) ≤ (j : Int) ∧ (j : Int) < (i : Int) := by omega
              clear htj hbw hc0 hr hbs hcs
              cases hed : (shaB ti == shaB tj) with
              | false =>
                have HEQ := Lib.hid hed
                rw [hed] at HCL
                clear hed
                go_wp2_with fail
                have hS1 : OldW wr wr.drew := (Fr.refl [] wr).drew
                refine sqo_begin (w0 := wr) (by kernel_rfl) ?_
                refine sqo_take (i := 0) (v := (.slice (some ⟨bS, oS, none⟩) n cS)) (d := 32) rfl (by kernel_rfl) (by kernel_rfl) (by kernel_rfl) (by kernel_rfl) (by kernel_rfl) (fun _ _ _ h => h) ?_ (by assumption) ?_
                · intro w9 h9; kernel_rfl
                try simp only [Act.put, List.setIfInBounds_toArray, List.set_cons_zero, List.set_cons_succ]
                refine sqo_take (i := 1) (v := (.int .i64 (i : Int))) (d := 33) rfl (by kernel_rfl) (by kernel_rfl) (by kernel_rfl) (by kernel_rfl) (by kernel_rfl) (fun _ _ _ h => h) ?_ (by assumption) ?_
                · intro w9 h9; kernel_rfl
                try simp only [Act.put, List.setIfInBounds_toArray, List.set_cons_zero, List.set_cons_succ]
                refine sqo_take (i := 2) (v := (.pointer (some ⟨bS, oS + i * 32, none⟩))) (d := 34) rfl (by kernel_rfl) (by kernel_rfl) (by kernel_rfl) (by kernel_rfl) (by kernel_rfl) (fun _ _ _ h => h) ?_ (by assumption) ?_
                · intro w9 h9; exact ex_ixa rfl (by kernel_rfl) (by kernel_rfl) (HIX.out w9)
                try simp only [Act.put, List.setIfInBounds_toArray, List.set_cons_zero, List.set_cons_succ]
                refine sqo_take (i := 3) (v := (.agg (u8s (shaB ti)).toArray)) (d := 35) rfl (by kernel_rfl) (by kernel_rfl) (by kernel_rfl) (by kernel_rfl) (by kernel_rfl) (fun _ _ _ h => h) ?_ (by assumption) ?_
                · intro w9 h9; exact exec_load_agg rfl bS (oS + i * 32) (by kernel_rfl) (u8s (shaB ti)) _ (HCI.out w9 h9) Try.underlying25 rfl HDI.out
                try simp only [Act.put, List.setIfInBounds_toArray, List.set_cons_zero, List.set_cons_succ]
                refine sqo_take (i := 4) (v := (.slice (some ⟨bS, oS, none⟩) n cS)) (d := 36) rfl (by kernel_rfl) (by kernel_rfl) (by kernel_rfl) (by kernel_rfl) (by kernel_rfl) (fun _ _ _ h => h) ?_ (by assumption) ?_
                · intro w9 h9; kernel_rfl
                try simp only [Act.put, List.setIfInBounds_toArray, List.set_cons_zero, List.set_cons_succ]
                refine sqo_take (i := 5) (v := (.int .i64 (j : Int))) (d := 37) rfl (by kernel_rfl) (by kernel_rfl) (by kernel_rfl) (by kernel_rfl) (by kernel_rfl) (fun _ _ _ h => h) ?_ (by assumption) ?_
                · intro w9 h9; kernel_rfl
                try simp only [Act.put, List.setIfInBounds_toArray, List.set_cons_zero, List.set_cons_succ]
                refine sqo_take (i := 6) (v := (.pointer (some ⟨bS, oS + j * 32, none⟩))) (d := 38) rfl (by kernel_rfl) (by kernel_rfl) (by kernel_rfl) (by kernel_rfl) (by kernel_rfl) (fun _ _ _ h => h) ?_ (by assumption) ?_
                · intro w9 h9; exact ex_ixa rfl (by kernel_rfl) (by kernel_rfl) (HJX.out w9)
                try simp only [Act.put, List.setIfInBounds_toArray, List.set_cons_zero, List.set_cons_succ]
                refine sqo_take (i := 7) (v := (.agg (u8s (shaB tj)).toArray)) (d := 39) rfl (by kernel_rfl) (by kernel_rfl) (by kernel_rfl) (by kernel_rfl) (by kernel_rfl) (fun _ _ _ h => h) ?_ (by assumption) ?_
                · intro w9 h9; exact exec_load_agg rfl bS (oS + j * 32) (by kernel_rfl) (u8s (shaB tj)) _ (HCJ.out w9 h9) Try.underlying25 rfl HDJ.out
                try simp only [Act.put, List.setIfInBounds_toArray, List.set_cons_zero, List.set_cons_succ]
                refine sqo_take (i := 8) (v := (.bool false)) (d := 40) rfl (by kernel_rfl) (by kernel_rfl) (by kernel_rfl) (by kernel_rfl) (by kernel_rfl) (fun _ _ _ h => h) ?_ (by assumption) ?_
                · intro w9 h9; exact ex_eql_digB w9 rfl (shaB ti) (shaB tj) (by kernel_rfl) (by kernel_rfl) (shaB_length _) (shaB_length _) HEQ.out
                try simp only [Act.put, List.setIfInBounds_toArray, List.set_cons_zero, List.set_cons_succ]
                refine sqo_take (i := 9) (v := (.bool false)) (d := 41) rfl (by kernel_rfl) (by kernel_rfl) (by kernel_rfl) (by kernel_rfl) (by kernel_rfl) (fun _ _ _ h => h) ?_ (by assumption) ?_
                · intro w9 h9; kernel_rfl
                try simp only [Act.put, List.setIfInBounds_toArray, List.set_cons_zero, List.set_cons_succ]
                refine sqo_pass (i := 10) (d := 42) rfl (by kernel_rfl) (by kernel_rfl) (by kernel_rfl) (by kernel_rfl) (by kernel_rfl) (fun _ _ _ h => h) (by assumption) ?_
                try simp only [Act.put, List.setIfInBounds_toArray, List.set_cons_zero, List.set_cons_succ]
                refine sqo_pass (i := 11) (d := 43) rfl (by kernel_rfl) (by kernel_rfl) (by kernel_rfl) (by kernel_rfl) (by kernel_rfl) (fun _ _ _ h => h) (by assumption) ?_
                try simp only [Act.put, List.setIfInBounds_toArray, List.set_cons_zero, List.set_cons_succ]
                refine sqo_pass (i := 12) (d := 44) rfl (by kernel_rfl) (by kernel_rfl) (by kernel_rfl) (by kernel_rfl) (by kernel_rfl) (fun _ _ _ h => h) (by assumption) ?_
                try simp only [Act.put, List.setIfInBounds_toArray, List.set_cons_zero, List.set_cons_succ]
                refine sqo_pass (i := 13) (d := 45) rfl (by kernel_rfl) (by kernel_rfl) (by kernel_rfl) (by kernel_rfl) (by kernel_rfl) (fun _ _ _ h => h) (by assumption) ?_
                try simp only [Act.put, List.setIfInBounds_toArray, List.set_cons_zero, List.set_cons_succ]
                refine sqo_pass (i := 14) (d := 46) rfl (by kernel_rfl) (by kernel_rfl) (by kernel_rfl) (by kernel_rfl) (by kernel_rfl) (fun _ _ _ h => h) (by assumption) ?_
                try simp only [Act.put, List.setIfInBounds_toArray, List.set_cons_zero, List.set_cons_succ]
                refine sqo_pass (i := 15) (d := 47) rfl (by kernel_rfl) (by kernel_rfl) (by kernel_rfl) (by kernel_rfl) (by kernel_rfl) (fun _ _ _ h => h) (by assumption) ?_
                try simp only [Act.put, List.setIfInBounds_toArray, List.set_cons_zero, List.set_cons_succ]
                refine sqo_pass (i := 16) (d := 48) rfl (by kernel_rfl) (by kernel_rfl) (by kernel_rfl) (by kernel_rfl) (by kernel_rfl) (fun _ _ _ h => h) (by assumption) ?_
                try simp only [Act.put, List.setIfInBounds_toArray, List.set_cons_zero, List.set_cons_succ]
                refine sqo_pass (i := 17) (d := 49) rfl (by kernel_rfl) (by kernel_rfl) (by kernel_rfl) (by kernel_rfl) (by kernel_rfl) (fun _ _ _ h => h) (by assumption) ?_
                try simp only [Act.put, List.setIfInBounds_toArray, List.set_cons_zero, List.set_cons_succ]
                refine sqo_pass (i := 18) (d := 50) rfl (by kernel_rfl) (by kernel_rfl) (by kernel_rfl) (by kernel_rfl) (by kernel_rfl) (fun _ _ _ h => h) (by assumption) ?_
                try simp only [Act.put, List.setIfInBounds_toArray, List.set_cons_zero, List.set_cons_succ]
                refine sqo_pass (i := 19) (d := 51) rfl (by kernel_rfl) (by kernel_rfl) (by kernel_rfl) (by kernel_rfl) (by kernel_rfl) (fun _ _ _ h => h) (by assumption) ?_
                try simp only [Act.put, List.setIfInBounds_toArray, List.set_cons_zero, List.set_cons_succ]
                refine sqo_pass (i := 20) (d := 52) rfl (by kernel_rfl) (by kernel_rfl) (by kernel_rfl) (by kernel_rfl) (by kernel_rfl) (fun _ _ _ h => h) (by assumption) ?_
                try simp only [Act.put, List.setIfInBounds_toArray, List.set_cons_zero, List.set_cons_succ]
                refine sqo_take (i := 21) (v := (.bool false)) (d := 53) rfl (by kernel_rfl) (by kernel_rfl) (by kernel_rfl) (by kernel_rfl) (by kernel_rfl) (fun _ _ _ h => h) ?_ (by assumption) ?_
                · intro w9 h9; kernel_rfl
                try simp only [Act.put, List.setIfInBounds_toArray, List.set_cons_zero, List.set_cons_succ]
                refine wpAnyH_done (by kernel_rfl) ?_ _
                go_wp2_with fail
                go_roundg (i - (j + 1))
                case measure => omega
                case rel =>
                  refine ⟨j + 1, by omega, rfl, by go_num, fun k' hk' => ?_, HF2.out.drew⟩
                  rcases Nat.lt_or_ge k' j with h | h
                  · exact HNO2.out k' h
                  · obtain rfl : k' = j := by omega
                    exact HCL.out
              | true =>
                have HEQ := Lib.hid hed
                rw [hed] at HCL
                clear hed
                cases hes : (ti == tj) with
                | true =>
                  have HES := Lib.hid (show (ti == tj) = !false from hes)
                  rw [hes] at HCL
                  clear hes
                  go_wp2_with fail
                  have hS1 : OldW wr wr.drew := (Fr.refl [] wr).drew
                  refine sqo_begin (w0 := wr) (by kernel_rfl) ?_
                  refine sqo_take (i := 0) (v := (.slice (some ⟨bS, oS, none⟩) n cS)) (d := 32) rfl (by kernel_rfl) (by kernel_rfl) (by kernel_rfl) (by kernel_rfl) (by kernel_rfl) (fun _ _ _ h => h) ?_ (by assumption) ?_
                  · intro w9 h9; kernel_rfl
                  try simp only [Act.put, List.setIfInBounds_toArray, List.set_cons_zero, List.set_cons_succ]
                  refine sqo_take (i := 1) (v := (.int .i64 (i : Int))) (d := 33) rfl (by kernel_rfl) (by kernel_rfl) (by kernel_rfl) (by kernel_rfl) (by kernel_rfl) (fun _ _ _ h => h) ?_ (by assumption) ?_
                  · intro w9 h9; kernel_rfl
                  try simp only [Act.put, List.setIfInBounds_toArray, List.set_cons_zero, List.set_cons_succ]
                  refine sqo_take (i := 2) (v := (.pointer (some ⟨bS, oS + i * 32, none⟩))) (d := 34) rfl (by kernel_rfl) (by kernel_rfl) (by kernel_rfl) (by kernel_rfl) (by kernel_rfl) (fun _ _ _ h => h) ?_ (by assumption) ?_
                  · intro w9 h9; exact ex_ixa rfl (by kernel_rfl) (by kernel_rfl) (HIX.out w9)
                  try simp only [Act.put, List.setIfInBounds_toArray, List.set_cons_zero, List.set_cons_succ]
                  refine sqo_take (i := 3) (v := (.agg (u8s (shaB ti)).toArray)) (d := 35) rfl (by kernel_rfl) (by kernel_rfl) (by kernel_rfl) (by kernel_rfl) (by kernel_rfl) (fun _ _ _ h => h) ?_ (by assumption) ?_
                  · intro w9 h9; exact exec_load_agg rfl bS (oS + i * 32) (by kernel_rfl) (u8s (shaB ti)) _ (HCI.out w9 h9) Try.underlying25 rfl HDI.out
                  try simp only [Act.put, List.setIfInBounds_toArray, List.set_cons_zero, List.set_cons_succ]
                  refine sqo_take (i := 4) (v := (.slice (some ⟨bS, oS, none⟩) n cS)) (d := 36) rfl (by kernel_rfl) (by kernel_rfl) (by kernel_rfl) (by kernel_rfl) (by kernel_rfl) (fun _ _ _ h => h) ?_ (by assumption) ?_
                  · intro w9 h9; kernel_rfl
                  try simp only [Act.put, List.setIfInBounds_toArray, List.set_cons_zero, List.set_cons_succ]
                  refine sqo_take (i := 5) (v := (.int .i64 (j : Int))) (d := 37) rfl (by kernel_rfl) (by kernel_rfl) (by kernel_rfl) (by kernel_rfl) (by kernel_rfl) (fun _ _ _ h => h) ?_ (by assumption) ?_
                  · intro w9 h9; kernel_rfl
                  try simp only [Act.put, List.setIfInBounds_toArray, List.set_cons_zero, List.set_cons_succ]
                  refine sqo_take (i := 6) (v := (.pointer (some ⟨bS, oS + j * 32, none⟩))) (d := 38) rfl (by kernel_rfl) (by kernel_rfl) (by kernel_rfl) (by kernel_rfl) (by kernel_rfl) (fun _ _ _ h => h) ?_ (by assumption) ?_
                  · intro w9 h9; exact ex_ixa rfl (by kernel_rfl) (by kernel_rfl) (HJX.out w9)
                  try simp only [Act.put, List.setIfInBounds_toArray, List.set_cons_zero, List.set_cons_succ]
                  refine sqo_take (i := 7) (v := (.agg (u8s (shaB tj)).toArray)) (d := 39) rfl (by kernel_rfl) (by kernel_rfl) (by kernel_rfl) (by kernel_rfl) (by kernel_rfl) (fun _ _ _ h => h) ?_ (by assumption) ?_
                  · intro w9 h9; exact exec_load_agg rfl bS (oS + j * 32) (by kernel_rfl) (u8s (shaB tj)) _ (HCJ.out w9 h9) Try.underlying25 rfl HDJ.out
                  try simp only [Act.put, List.setIfInBounds_toArray, List.set_cons_zero, List.set_cons_succ]
                  refine sqo_take (i := 8) (v := (.bool true)) (d := 40) rfl (by kernel_rfl) (by kernel_rfl) (by kernel_rfl) (by kernel_rfl) (by kernel_rfl) (fun _ _ _ h => h) ?_ (by assumption) ?_
                  · intro w9 h9; exact ex_eql_digB w9 rfl (shaB ti) (shaB tj) (by kernel_rfl) (by kernel_rfl) (shaB_length _) (shaB_length _) HEQ.out
                  try simp only [Act.put, List.setIfInBounds_toArray, List.set_cons_zero, List.set_cons_succ]
                  refine sqo_take (i := 9) (v := (.bool true)) (d := 41) rfl (by kernel_rfl) (by kernel_rfl) (by kernel_rfl) (by kernel_rfl) (by kernel_rfl) (fun _ _ _ h => h) ?_ (by assumption) ?_
                  · intro w9 h9; kernel_rfl
                  try simp only [Act.put, List.setIfInBounds_toArray, List.set_cons_zero, List.set_cons_succ]
                  refine sqo_take (i := 10) (v := (.slice (some ⟨bT, oT, none⟩) n c)) (d := 42) rfl (by kernel_rfl) (by kernel_rfl) (by kernel_rfl) (by kernel_rfl) (by kernel_rfl) (fun _ _ _ h => h) ?_ (by assumption) ?_
                  · intro w9 h9; kernel_rfl
                  try simp only [Act.put, List.setIfInBounds_toArray, List.set_cons_zero, List.set_cons_succ]
                  refine sqo_take (i := 11) (v := (.int .i64 (i : Int))) (d := 43) rfl (by kernel_rfl) (by kernel_rfl) (by kernel_rfl) (by kernel_rfl) (by kernel_rfl) (fun _ _ _ h => h) ?_ (by assumption) ?_
                  · intro w9 h9; kernel_rfl
                  try simp only [Act.put, List.setIfInBounds_toArray, List.set_cons_zero, List.set_cons_succ]
                  refine sqo_take (i := 12) (v := (.pointer (some ⟨bT, oT + i, none⟩))) (d := 44) rfl (by kernel_rfl) (by kernel_rfl) (by kernel_rfl) (by kernel_rfl) (by kernel_rfl) (fun _ _ _ h => h) ?_ (by assumption) ?_
                  · intro w9 h9; exact ex_ixa rfl (by kernel_rfl) (by kernel_rfl) (HIT.out w9)
                  try simp only [Act.put, List.setIfInBounds_toArray, List.set_cons_zero, List.set_cons_succ]
                  refine sqo_take (i := 13) (v := (.slice Ai ti.length ci)) (d := 45) rfl (by kernel_rfl) (by kernel_rfl) (by kernel_rfl) (by kernel_rfl) (by kernel_rfl) (fun _ _ _ h => h) ?_ (by assumption) ?_
                  · intro w9 h9; exact exec_load_one rfl (by kernel_rfl) (.slice Ai ti.length ci) (.slice 5) w9 (HTI.out w9 h9).1 Try.underlying45 rfl
                  try simp only [Act.put, List.setIfInBounds_toArray, List.set_cons_zero, List.set_cons_succ]
                  refine sqo_take (i := 14) (v := (.string (str ti))) (d := 46) rfl (by kernel_rfl) (by kernel_rfl) (by kernel_rfl) (by kernel_rfl) (by kernel_rfl) (fun _ _ _ h => h) ?_ (by assumption) ?_
                  · intro w9 h9; exact exec_conv_str (A := Ai) (c := ci) rfl Try.underlying45 Try.underlying5 Try.underlying9 (by kernel_rfl) (HTI.out w9 h9).2
                  try simp only [Act.put, List.setIfInBounds_toArray, List.set_cons_zero, List.set_cons_succ]
                  refine sqo_take (i := 15) (v := (.slice (some ⟨bT, oT, none⟩) n c)) (d := 47) rfl (by kernel_rfl) (by kernel_rfl) (by kernel_rfl) (by kernel_rfl) (by kernel_rfl) (fun _ _ _ h => h) ?_ (by assumption) ?_
                  · intro w9 h9; kernel_rfl
                  try simp only [Act.put, List.setIfInBounds_toArray, List.set_cons_zero, List.set_cons_succ]
                  refine sqo_take (i := 16) (v := (.int .i64 (j : Int))) (d := 48) rfl (by kernel_rfl) (by kernel_rfl) (by kernel_rfl) (by kernel_rfl) (by kernel_rfl) (fun _ _ _ h => h) ?_ (by assumption) ?_
                  · intro w9 h9; kernel_rfl
                  try simp only [Act.put, List.setIfInBounds_toArray, List.set_cons_zero, List.set_cons_succ]
                  refine sqo_take (i := 17) (v := (.pointer (some ⟨bT, oT + j, none⟩))) (d := 49) rfl (by kernel_rfl) (by kernel_rfl) (by kernel_rfl) (by kernel_rfl) (by kernel_rfl) (fun _ _ _ h => h) ?_ (by assumption) ?_
                  · intro w9 h9; exact ex_ixa rfl (by kernel_rfl) (by kernel_rfl) (HJT.out w9)
                  try simp only [Act.put, List.setIfInBounds_toArray, List.set_cons_zero, List.set_cons_succ]
                  refine sqo_take (i := 18) (v := (.slice Aj tj.length cj)) (d := 50) rfl (by kernel_rfl) (by kernel_rfl) (by kernel_rfl) (by kernel_rfl) (by kernel_rfl) (fun _ _ _ h => h) ?_ (by assumption) ?_
                  · intro w9 h9; exact exec_load_one rfl (by kernel_rfl) (.slice Aj tj.length cj) (.slice 5) w9 (HTJ.out w9 h9).1 Try.underlying45 rfl
                  try simp only [Act.put, List.setIfInBounds_toArray, List.set_cons_zero, List.set_cons_succ]
                  refine sqo_take (i := 19) (v := (.string (str tj))) (d := 51) rfl (by kernel_rfl) (by kernel_rfl) (by kernel_rfl) (by kernel_rfl) (by kernel_rfl) (fun _ _ _ h => h) ?_ (by assumption) ?_
                  · intro w9 h9; exact exec_conv_str (A := Aj) (c := cj) rfl Try.underlying45 Try.underlying5 Try.underlying9 (by kernel_rfl) (HTJ.out w9 h9).2
                  try simp only [Act.put, List.setIfInBounds_toArray, List.set_cons_zero, List.set_cons_succ]
                  refine sqo_take (i := 20) (v := (.bool false)) (d := 52) rfl (by kernel_rfl) (by kernel_rfl) (by kernel_rfl) (by kernel_rfl) (by kernel_rfl) (fun _ _ _ h => h) ?_ (by assumption) ?_
                  · intro w9 h9; exact ex_neq_str rfl (by kernel_rfl) (by kernel_rfl) HES.out
                  try simp only [Act.put, List.setIfInBounds_toArray, List.set_cons_zero, List.set_cons_succ]
                  refine sqo_take (i := 21) (v := (.bool false)) (d := 53) rfl (by kernel_rfl) (by kernel_rfl) (by kernel_rfl) (by kernel_rfl) (by kernel_rfl) (fun _ _ _ h => h) ?_ (by assumption) ?_
                  · intro w9 h9; kernel_rfl
                  try simp only [Act.put, List.setIfInBounds_toArray, List.set_cons_zero, List.set_cons_succ]
                  refine wpAnyH_done (by kernel_rfl) ?_ _
                  go_wp2_with fail
                  go_roundg (i - (j + 1))
                  case measure => omega
                  case rel =>
                    refine ⟨j + 1, by omega, rfl, by go_num, fun k' hk' => ?_, HF2.out.drew⟩
                    rcases Nat.lt_or_ge k' j with h | h
                    · exact HNO2.out k' h
                    · obtain rfl : k' = j := by omega
                      exact HCL.out
                | false =>
                  have HES := Lib.hid (show (ti == tj) = !true from hes)
                  rw [hes] at HCL
                  clear hes
                  go_wp2_with fail
                  have hS1 : OldW wr wr.drew := (Fr.refl [] wr).drew
                  refine sqo_begin (w0 := wr) (by kernel_rfl) ?_
                  refine sqo_take (i := 0) (v := (.slice (some ⟨bS, oS, none⟩) n cS)) (d := 32) rfl (by kernel_rfl) (by kernel_rfl) (by kernel_rfl) (by kernel_rfl) (by kernel_rfl) (fun _ _ _ h => h) ?_ (by assumption) ?_
                  · intro w9 h9; kernel_rfl
                  try simp only [Act.put, List.setIfInBounds_toArray, List.set_cons_zero, List.set_cons_succ]
                  refine sqo_take (i := 1) (v := (.int .i64 (i : Int))) (d := 33) rfl (by kernel_rfl) (by kernel_rfl) (by kernel_rfl) (by kernel_rfl) (by kernel_rfl) (fun _ _ _ h => h) ?_ (by assumption) ?_
                  · intro w9 h9; kernel_rfl
                  try simp only [Act.put, List.setIfInBounds_toArray, List.set_cons_zero, List.set_cons_succ]
                  refine sqo_take (i := 2) (v := (.pointer (some ⟨bS, oS + i * 32, none⟩))) (d := 34) rfl (by kernel_rfl) (by kernel_rfl) (by kernel_rfl) (by kernel_rfl) (by kernel_rfl) (fun _ _ _ h => h) ?_ (by assumption) ?_
                  · intro w9 h9; exact ex_ixa rfl (by kernel_rfl) (by kernel_rfl) (HIX.out w9)
                  try simp only [Act.put, List.setIfInBounds_toArray, List.set_cons_zero, List.set_cons_succ]
                  refine sqo_take (i := 3) (v := (.agg (u8s (shaB ti)).toArray)) (d := 35) rfl (by kernel_rfl) (by kernel_rfl) (by kernel_rfl) (by kernel_rfl) (by kernel_rfl) (fun _ _ _ h => h) ?_ (by assumption) ?_
                  · intro w9 h9; exact exec_load_agg rfl bS (oS + i * 32) (by kernel_rfl) (u8s (shaB ti)) _ (HCI.out w9 h9) Try.underlying25 rfl HDI.out
                  try simp only [Act.put, List.setIfInBounds_toArray, List.set_cons_zero, List.set_cons_succ]
                  refine sqo_take (i := 4) (v := (.slice (some ⟨bS, oS, none⟩) n cS)) (d := 36) rfl (by kernel_rfl) (by kernel_rfl) (by kernel_rfl) (by kernel_rfl) (by kernel_rfl) (fun _ _ _ h => h) ?_ (by assumption) ?_
                  · intro w9 h9; kernel_rfl
                  try simp only [Act.put, List.setIfInBounds_toArray, List.set_cons_zero, List.set_cons_succ]
                  refine sqo_take (i := 5) (v := (.int .i64 (j : Int))) (d := 37) rfl (by kernel_rfl) (by kernel_rfl) (by kernel_rfl) (by kernel_rfl) (by kernel_rfl) (fun _ _ _ h => h) ?_ (by assumption) ?_
                  · intro w9 h9; kernel_rfl
                  try simp only [Act.put, List.setIfInBounds_toArray, List.set_cons_zero, List.set_cons_succ]
                  refine sqo_take (i := 6) (v := (.pointer (some ⟨bS, oS + j * 32, none⟩))) (d := 38) rfl (by kernel_rfl) (by kernel_rfl) (by kernel_rfl) (by kernel_rfl) (by kernel_rfl) (fun _ _ _ h => h) ?_ (by assumption) ?_
                  · intro w9 h9; exact ex_ixa rfl (by kernel_rfl) (by kernel_rfl) (HJX.out w9)
                  try simp only [Act.put, List.setIfInBounds_toArray, List.set_cons_zero, List.set_cons_succ]
                  refine sqo_take (i := 7) (v := (.agg (u8s (shaB tj)).toArray)) (d := 39) rfl (by kernel_rfl) (by kernel_rfl) (by kernel_rfl) (by kernel_rfl) (by kernel_rfl) (fun _ _ _ h => h) ?_ (by assumption) ?_
                  · intro w9 h9; exact exec_load_agg rfl bS (oS + j * 32) (by kernel_rfl) (u8s (shaB tj)) _ (HCJ.out w9 h9) Try.underlying25 rfl HDJ.out
                  try simp only [Act.put, List.setIfInBounds_toArray, List.set_cons_zero, List.set_cons_succ]
                  refine sqo_take (i := 8) (v := (.bool true)) (d := 40) rfl (by kernel_rfl) (by kernel_rfl) (by kernel_rfl) (by kernel_rfl) (by kernel_rfl) (fun _ _ _ h => h) ?_ (by assumption) ?_
                  · intro w9 h9; exact ex_eql_digB w9 rfl (shaB ti) (shaB tj) (by kernel_rfl) (by kernel_rfl) (shaB_length _) (shaB_length _) HEQ.out
                  try simp only [Act.put, List.setIfInBounds_toArray, List.set_cons_zero, List.set_cons_succ]
                  refine sqo_take (i := 9) (v := (.bool true)) (d := 41) rfl (by kernel_rfl) (by kernel_rfl) (by kernel_rfl) (by kernel_rfl) (by kernel_rfl) (fun _ _ _ h => h) ?_ (by assumption) ?_
                  · intro w9 h9; kernel_rfl
                  try simp only [Act.put, List.setIfInBounds_toArray, List.set_cons_zero, List.set_cons_succ]
                  refine sqo_take (i := 10) (v := (.slice (some ⟨bT, oT, none⟩) n c)) (d := 42) rfl (by kernel_rfl) (by kernel_rfl) (by kernel_rfl) (by kernel_rfl) (by kernel_rfl) (fun _ _ _ h => h) ?_ (by assumption) ?_
                  · intro w9 h9; kernel_rfl
                  try simp only [Act.put, List.setIfInBounds_toArray, List.set_cons_zero, List.set_cons_succ]
                  refine sqo_take (i := 11) (v := (.int .i64 (i : Int))) (d := 43) rfl (by kernel_rfl) (by kernel_rfl) (by kernel_rfl) (by kernel_rfl) (by kernel_rfl) (fun _ _ _ h => h) ?_ (by assumption) ?_
                  · intro w9 h9; kernel_rfl
                  try simp only [Act.put, List.setIfInBounds_toArray, List.set_cons_zero, List.set_cons_succ]
                  refine sqo_take (i := 12) (v := (.pointer (some ⟨bT, oT + i, none⟩))) (d := 44) rfl (by kernel_rfl) (by kernel_rfl) (by kernel_rfl) (by kernel_rfl) (by kernel_rfl) (fun _ _ _ h => h) ?_ (by assumption) ?_
                  · intro w9 h9; exact ex_ixa rfl (by kernel_rfl) (by kernel_rfl) (HIT.out w9)
                  try simp only [Act.put, List.setIfInBounds_toArray, List.set_cons_zero, List.set_cons_succ]
                  refine sqo_take (i := 13) (v := (.slice Ai ti.length ci)) (d := 45) rfl (by kernel_rfl) (by kernel_rfl) (by kernel_rfl) (by kernel_rfl) (by kernel_rfl) (fun _ _ _ h => h) ?_ (by assumption) ?_
                  · intro w9 h9; exact exec_load_one rfl (by kernel_rfl) (.slice Ai ti.length ci) (.slice 5) w9 (HTI.out w9 h9).1 Try.underlying45 rfl
                  try simp only [Act.put, List.setIfInBounds_toArray, List.set_cons_zero, List.set_cons_succ]
                  refine sqo_take (i := 14) (v := (.string (str ti))) (d := 46) rfl (by kernel_rfl) (by kernel_rfl) (by kernel_rfl) (by kernel_rfl) (by kernel_rfl) (fun _ _ _ h => h) ?_ (by assumption) ?_
                  · intro w9 h9; exact exec_conv_str (A := Ai) (c := ci) rfl Try.underlying45 Try.underlying5 Try.underlying9 (by kernel_rfl) (HTI.out w9 h9).2
                  try simp only [Act.put, List.setIfInBounds_toArray, List.set_cons_zero, List.set_cons_succ]
                  refine sqo_take (i := 15) (v := (.slice (some ⟨bT, oT, none⟩) n c)) (d := 47) rfl (by kernel_rfl) (by kernel_rfl) (by kernel_rfl) (by kernel_rfl) (by kernel_rfl) (fun _ _ _ h => h) ?_ (by assumption) ?_
                  · intro w9 h9; kernel_rfl
                  try simp only [Act.put, List.setIfInBounds_toArray, List.set_cons_zero, List.set_cons_succ]
                  refine sqo_take (i := 16) (v := (.int .i64 (j : Int))) (d := 48) rfl (by kernel_rfl) (by kernel_rfl) (by kernel_rfl) (by kernel_rfl) (by kernel_rfl) (fun _ _ _ h => h) ?_ (by assumption) ?_
                  · intro w9 h9; kernel_rfl
                  try simp only [Act.put, List.setIfInBounds_toArray, List.set_cons_zero, List.set_cons_succ]
                  refine sqo_take (i := 17) (v := (.pointer (some ⟨bT, oT + j, none⟩))) (d := 49) rfl (by kernel_rfl) (by kernel_rfl) (by kernel_rfl) (by kernel_rfl) (by kernel_rfl) (fun _ _ _ h => h) ?_ (by assumption) ?_
                  · intro w9 h9; exact ex_ixa rfl (by kernel_rfl) (by kernel_rfl) (HJT.out w9)
                  try simp only [Act.put, List.setIfInBounds_toArray, List.set_cons_zero, List.set_cons_succ]
                  refine sqo_take (i := 18) (v := (.slice Aj tj.length cj)) (d := 50) rfl (by kernel_rfl) (by kernel_rfl) (by kernel_rfl) (by kernel_rfl) (by kernel_rfl) (fun _ _ _ h => h) ?_ (by assumption) ?_
                  · intro w9 h9; exact exec_load_one rfl (by kernel_rfl) (.slice Aj tj.length cj) (.slice 5) w9 (HTJ.out w9 h9).1 Try.underlying45 rfl
                  try simp only [Act.put, List.setIfInBounds_toArray, List.set_cons_zero, List.set_cons_succ]
                  refine sqo_take (i := 19) (v := (.string (str tj))) (d := 51) rfl (by kernel_rfl) (by kernel_rfl) (by kernel_rfl) (by kernel_rfl) (by kernel_rfl) (fun _ _ _ h => h) ?_ (by assumption) ?_
                  · intro w9 h9; exact exec_conv_str (A := Aj) (c := cj) rfl Try.underlying45 Try.underlying5 Try.underlying9 (by kernel_rfl) (HTJ.out w9 h9).2
                  try simp only [Act.put, List.setIfInBounds_toArray, List.set_cons_zero, List.set_cons_succ]
                  refine sqo_take (i := 20) (v := (.bool true)) (d := 52) rfl (by kernel_rfl) (by kernel_rfl) (by kernel_rfl) (by kernel_rfl) (by kernel_rfl) (fun _ _ _ h => h) ?_ (by assumption) ?_
                  · intro w9 h9; exact ex_neq_str rfl (by kernel_rfl) (by kernel_rfl) HES.out
                  try simp only [Act.put, List.setIfInBounds_toArray, List.set_cons_zero, List.set_cons_succ]
                  refine sqo_take (i := 21) (v := (.bool true)) (d := 53) rfl (by kernel_rfl) (by kernel_rfl) (by kernel_rfl) (by kernel_rfl) (by kernel_rfl) (fun _ _ _ h => h) ?_ (by assumption) ?_
                  · intro w9 h9; kernel_rfl
                  try simp only [Act.put, List.setIfInBounds_toArray, List.set_cons_zero, List.set_cons_succ]
                  refine wpAnyH_done (by kernel_rfl) ?_ _
                  go_wp2_with fail
                  go_ret
                  have hcl : clashB T = true := clashB_true (by rw [HN.out]; exact HIN.out) hjt HCL.out
                  exact ⟨by rw [hcl]; rfl, HF.out.trans HF2.out.drew⟩
            · obtain rfl : i = j := by omega
              go_wp2_with fail
              go_roundg (n - (i + 1))
              case measure => omega
              case rel =>
                refine ⟨i + 1, by omega, rfl, by go_num, fun i' k' h1 h2 => ?_, HF2.out⟩
                rcases Nat.lt_or_ge i' i with h | h
                · exact HNO.out i' k' h h2
                · obtain rfl : i' = i := by omega
                  exact HNO2.out k' h2
        · obtain rfl : n = i := by omega
          go_wp2
          go_ret
          have hcl : clashB T = false := clashB_false (fun i' k' h1 h2 => HNO.out i' k' (by rw [← HN.out]; exact h1) h2)
          exact ⟨by rw [hcl]; rfl, HF.out.trans HF1.out⟩
end Go.Proofs.Ytmgbimdebhhckaa
