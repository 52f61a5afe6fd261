/- History: a proof under way. -/
import Derived.Test.YtmgbimdebhhckaaHistP
import Derived.StillTailTactics
namespace Go.Proofs.Ytmgbimdebhhckaa
open Go.RowKit
set_option linter.unusedVariables false

/-- texts in a row of slices of the call's own -/
def TxRow (w : World) (v : Value) (D : List Nat) (base : Nat) (T : List (List UInt8)) : Prop :=
  ∃ vs : List Value, vs.length = T.length ∧ w.ownsRow base 45 1 v T.length vs ∧
    ∀ (i : Nat) (t : List UInt8), T[i]? = some t → ∃ (A : Option Addr) (c : Nat), vs[i]? = some (Value.slice A t.length c) ∧ Rd w A t ∧ (0 < t.length → ∀ b off, A = some ⟨b, off, none⟩ → b ∉ D ∧ some b ≠ v.ownBlock)
/-- a proof under way -/
structure PIs (w : World) (D : List Nat) (g base : Nat) (v : Value) (L T : List (List UInt8)) (lk : Bool) : Prop where
  hd : g ∈ D
  hg : base ≤ g
  hv : some g ≠ v.ownBlock
  blk : ∃ (A : Option Addr) (c : Nat), Blk w g 54 #[.slice A L.length c, v, .bool lk] ∧ L.length ≤ c ∧ DgIn w A L ∧ (0 < L.length → ∀ b off, A = some ⟨b, off, none⟩ → b < base)
  tx : TxRow w v D base T
theorem dgIn_keep {S : List Nat} {w w' : World} {A : Option Addr} {ds : List (List UInt8)} (h : DgIn w A ds) (hf : Fr S w w') (hS : 0 < ds.length → ∀ b off, A = some ⟨b, off, none⟩ → b ∉ S) : DgIn w' A ds := fun i d hd => by
  obtain ⟨h1, b, off, hA, hb, hc⟩ := h i d hd
  refine ⟨h1, b, off, hA, Nat.lt_of_lt_of_le hb hf.size, fun j v hv => ?_⟩
  rw [hf.cell (p := ⟨b, off + i * 32 + j, none⟩) hb (hS (by obtain ⟨hl, _⟩ := List.getElem?_eq_some_iff.1 hd; omega) b off hA)]
  exact hc j v hv
/-- the last sum is taken -/
def takeL (L : List (List UInt8)) (lk : Bool) : List UInt8 × List (List UInt8) × Bool := match L.getLast? with | none => (List.replicate 32 0, [], true) | some d => (d, L.dropLast, lk)
theorem proof_size : (Try.prog.info? 54).map (·.size) = some 3 := by kernel_rfl
theorem exec_load_one {P : Program} {a : Act} {o : Oper} {ty : TypeId} {x : Operand} (ho : o.op = .load ty x) {p : Addr} (hx : a.eval x = .pointer (some p)) (v : Value) (d : TypeDesc) (w : World) (hc : w.cell? p = some v)
    (hu : P.underlying ty = some d) (hd : (match d with | .struct _ | .array _ _ => true | _ => false) = false) : (execOp a.eval o).run P w = .ok (.value v) w := by
  have h1 : (isAgg ty).run P w = .ok false w := by
    unfold isAgg
    rw [Sem.run_bind, run_underlying hu w]
    cases d <;> simp_all
  unfold execOp
  simp [ho, hx, Instr.loadAt, Instr.sureAddr, loadVar, Sem.run_bind, h1, hc]
def TakeP (w : World) (D : List Nat) (g base : Nat) (v : Value) (T : List (List UInt8)) (r : List UInt8 × List (List UInt8) × Bool) (e : Ending) (w' : World) : Prop :=
  e = .returned (.agg (u8s r.1).toArray) ∧ PIs w' D g base v r.2.1 T r.2.2 ∧ Fr [g] w w'
theorem ex_build0 {a : Act} {o : Oper} (ho : o.op = .build 25 #[]) (w : World) : (execOp a.eval o).run Try.prog w = .ok (.value (.agg (zs 32).toArray)) w := by
  have h : (execOp a.eval { o with op := .build 25 #[] }).run Try.prog w = .ok (.value (.agg (zs 32).toArray)) w := by kernel_rfl
  rwa [← ho] at h
theorem wpList_wanted {P : Program} {ops : Array Oper} {rest : List Oper} {o : Oper} {a : Act} {w w' : World} {Q : Exit → Act → World → Prop} {v : Value} (hw : Region.wanted o (yielded ops a.tmps) = true)
    (he : (execOp a.eval o).run P w = .ok (.value v) w') (h : wpList P ops Q rest (a.put o.dst v) w') : wpList P ops Q (o :: rest) a w :=
  wpList_step fun K hK => by rw [if_pos hw]; exact opwp_val he (hK _ _ h)
theorem z32_size : (Try.prog.info? 25).map (·.size) = some (zs 32).length := dig_size (List.replicate 32 0) rfl
theorem z32_splice : splice (zs 32) 0 (zs 32) = zs 32 := splice_32 (List.replicate 32 0) rfl
theorem z32_fit : 0 + (zs 32).length ≤ (zs 32).length := by omega
theorem TxRow.fr {w w' : World} {v : Value} {D : List Nat} {base : Nat} {T : List (List UInt8)} {S : List Nat} (h : TxRow w v D base T) (hf : Fr S w w') (hS : ∀ x ∈ S, x ∈ D ∨ w.heap.size ≤ x) (hv : ∀ k, v.ownBlock = some k → k ∉ S) : TxRow w' v D base T := by
  obtain ⟨vs, h1, h2, h3⟩ := h
  refine ⟨vs, h1, own_fr h2 hf hv, fun i t ht => ?_⟩
  obtain ⟨A, c, e1, e2, e3⟩ := h3 i t ht
  refine ⟨A, c, e1, e2.fr0 hf (fun hl b off hb hm => ?_), e3⟩
  rcases hS b hm with hd | hge
  · exact (e3 hl b off hb).1 hd
  · subst hb
    have := e2.lt hl
    omega
theorem ex_ixa {P : Program} {a : Act} {o : Oper} {t : TypeId} {x y : Operand} {u i v : Value} {w : World} (ho : o.op = .indexAddr t x y) (hx : a.eval x = u) (hy : a.eval y = i) (h : (Instr.indexAt t u i).run P w = .ok v w) : (execOp a.eval o).run P w = .ok (.value v) w := by
  unfold execOp
  simp [ho, hx, hy, h]
/-- one cell is stored -/
theorem sq_store1 {P : Program} {Q : Exit → Act → World → Prop} {a : Act} {o : Oper} {w : World} {K : Act → World → Prop} (ty : TypeId) (p x : Operand) (g off : Nat) (v : Value) (cur row : List Value) (t : TypeId) (ho : o.op = .store ty p x) (hd : o.dst = none)
    (hp : a.eval p = .pointer (some ⟨g, off, none⟩)) (hx : a.eval x = v) (hv : v.cells = #[v]) (hrow : splice cur off [v] = row) (hg : Blk w g t cur.toArray) (hfit : off + 1 ≤ cur.length) (h1 : v.oneCell' = true)
    (hi : (P.info? ty).map (·.size) = some 1) (hk : K a (w.setRow g row.toArray)) : Oper.wp P o a w K Q := by
  subst hrow
  refine opwp_skip (w' := w.setRow g (splice cur off [v]).toArray) ?_ (by rw [hd]; exact hk)
  have hst := run_storeCells_at P g off t [v] 0 cur.toArray w hg (by simpa using hfit) (by simpa using h1)
  cases hq : P.info? ty with
  | none => simp [hq] at hi
  | some i =>
    have hs : i.size = 1 := by simpa [hq] using hi
    unfold execOp
    simp only [ho, hp, hx]
    simp [Instr.storeAt, Instr.sureAddr, storeVar, sizeOf, typeInfo, hq, hs, hv, hst, splice]
theorem size_dgs : (Try.prog.info? 22).map (·.size) = some 1 := by kernel_rfl
set_option maxHeartbeats 1000000 in
theorem take_calls (w : World) (D : List Nat) (g base : Nat) (v : Value) (L T : List (List UInt8)) (lk : Bool) (h : PIs w D g base v L T lk) (hb : L.length ≤ 100000000) :
    Calls Try.prog 43 #[.pointer (some ⟨g, 0, none⟩)] w (TakeP w D g base v T (takeL L lk)) := by
  have H := Lib.hid h
  obtain ⟨hd, hg, hv, ⟨A, c, hblk, hc, hD, hA⟩, htx⟩ := h
  have HDG := Lib.hid hd
  clear hd
  obtain ⟨n, hn⟩ : ∃ n, L.length = n := ⟨_, rfl⟩
  rw [hn] at hblk hc hb
  have hgl := hblk.lt
  obtain ⟨w1, hw1⟩ : ∃ W, w.alloc (.cells (zs 32).toArray 25) = W := ⟨_, rfl⟩
  have HB1 := Lib.hid (show Blk w1 w.heap.size 25 (zs 32).toArray from hw1 ▸ Blk.new _ _ _)
  have F1 := Lib.hid (show Fr [] w w1 from hw1 ▸ (Fr.refl [] w).alloc _)
  have hbk1 := hblk.fr F1.out (by simp)
  have HG1 := Lib.hid hbk1
  have HD := Lib.hid hD; have HA := Lib.hid hA; have HN := Lib.hid hn; have HTX := Lib.hid htx
  have c0 : w1.cell? ⟨g, 0, none⟩ = some (.slice A n c) := by rw [hbk1.cell]; rfl
  have c2 : w1.cell? ⟨g, 2, none⟩ = some (.bool lk) := by rw [hbk1.cell]; rfl
  have hz0 : w1.frozen? ⟨g, 0, none⟩ = false := hbk1.frozen 0
  have hz2 : w1.frozen? ⟨g, 2, none⟩ = false := hbk1.frozen 2
  have HGN := Lib.hid (show w.heap.size ≠ g by omega)
  clear hblk hD hA htx hbk1
  by_cases h0 : n = 0
  · subst h0
    have hL : L = [] := List.eq_nil_of_length_eq_zero hn
    go_enter Try.func43, Try.ntmps43
    go_wp2_with (first
      | (refine wpList_alloc_agg rfl 25 rfl (zs 32).toArray arr32_zero ?_; rw [hw1])
      | (refine wpList_wanted (v := .agg (zs 32).toArray) (by kernel_rfl) (ex_build0 rfl _) ?_)
      | (refine wpList_store_agg rfl 25 (.tmp 2) (.tmp 13) rfl w.heap.size 0 rfl (zs 32) rfl (zs 32) 25 (HB1.out.far HGN.out _) z32_fit (u8s_one _) z32_size ?_; rw [z32_splice]))
    have hb6 := (HB1.out.far HGN.out (p := ⟨g, 2, none⟩) (.bool true)).setRow_ (zs 32).toArray
    refine bodyPost_ret (results_cell_row (p := 2) (ty := 25) rfl _ _ w.heap.size 25 (zs 32).toArray (0, 0) _ rfl hb6 Try.underlying25 rfl (by rw [List.size_toArray]; exact z32_size)) rfl ?_
    have hF : Fr [g] w ((w1.setCell ⟨g, 2, none⟩ (.bool true)).setRow w.heap.size (zs 32).toArray) := by
      have h1 : Fr [g] w w1 := F1.out.mono (by simp)
      exact (h1.setCell (.inl (by simp)) _).setRow (.inr (Nat.le_refl _)) _
    subst hL
    have e : takeL [] lk = (List.replicate 32 0, [], true) := rfl
    rw [e]
    refine ⟨rfl, ⟨HDG.out, hg, hv, ⟨A, c, ?_, by simp, fun i d hd => by simp at hd, by simp⟩, ?_⟩, hF⟩
    · exact (HG1.out.set_ 2 _).setRow_far (Ne.symm HGN.out) _
    · exact HTX.out.fr hF (fun x hx => by simp at hx; exact .inl (hx ▸ HDG.out)) (fun k hk hm => by simp at hm; subst hm; exact hv hk.symm)
  · have hzn : ((n : Int) == 0) = false := by rw [beq_eq_false_iff_ne]; omega
    go_enter Try.func43, Try.ntmps43
    go_wp2_with (first
      | (refine wpList_alloc_agg rfl 25 rfl (zs 32).toArray arr32_zero ?_; rw [hw1]))
    obtain ⟨d, hd⟩ : ∃ d, L[n - 1]? = some d := ⟨L[n - 1]'(by omega), by simp⟩
    obtain ⟨hd32, b, off, hAe, hbw, hcx⟩ := (HD.out.fr F1.out) (n - 1) d hd
    subst hAe
    have HC0 := Lib.hid (fun w9 (h9 : OldW w1 w9) => (show w9.cell? ⟨g, 0, none⟩ = some (.slice (some ⟨b, off, none⟩) n c) from by rw [(HG1.out.fr h9 (by simp)).cell]; rfl))
    have HCX := Lib.hid (fun w9 (h9 : OldW w1 w9) => (fun j v hv => by rw [Fr.cell (p := ⟨b, off + (n - 1) * 32 + j, none⟩) h9 hbw (by simp)]; exact hcx j v hv : ∀ j v, (u8s d)[j]? = some v → w9.cell? ⟨b, off + (n - 1) * 32 + j, none⟩ = some v))
    have HDS := Lib.hid (dig_size d hd32)
    have HFT := Lib.hid (show 0 + (u8s d).length ≤ (zs 32).length by simp [zs_length, hd32])
    have HSP := Lib.hid (splice_32 d hd32)
    have HIX := Lib.hid (fun w9 => run_index_slice' (P := Try.prog) (t := 22) (size := 32) w9 Try.underlying22 dg_size (A := some ⟨b, off, none⟩) (n := n) (c := c) (j := n - 1) rfl (by omega))
    have HDD := Lib.hid hd; have HD32 := Lib.hid hd32
    clear hcx hbw hd hd32
    have hS1 : OldW w1 w1.drew := (Fr.refl [] w1).drew
    refine sqo_begin (w0 := w1) (by kernel_rfl) ?_
    refine sqo_take (i := 0) (v := (.pointer (some ⟨g, 0, none⟩))) (d := 14) rfl (by kernel_rfl) (by kernel_rfl) (by kernel_rfl) (by kernel_rfl) (by kernel_rfl) (fun _ _ _ h => h) ?_ (by assumption) ?_
    · intro w9 h9; kernel_rfl
    try simp only [Act.put, List.setIfInBounds_toArray, List.set_cons_zero, List.set_cons_succ]
    refine sqo_take (i := 1) (v := (.pointer (some ⟨g, 0, none⟩))) (d := 15) rfl (by kernel_rfl) (by kernel_rfl) (by kernel_rfl) (by kernel_rfl) (by kernel_rfl) (fun _ _ _ h => h) ?_ (by assumption) ?_
    · intro w9 h9; kernel_rfl
    try simp only [Act.put, List.setIfInBounds_toArray, List.set_cons_zero, List.set_cons_succ]
    refine sqo_take (i := 2) (v := (.pointer (some ⟨g, 0, none⟩))) (d := 16) rfl (by kernel_rfl) (by kernel_rfl) (by kernel_rfl) (by kernel_rfl) (by kernel_rfl) (fun _ _ _ h => h) ?_ (by assumption) ?_
    · intro w9 h9; kernel_rfl
    try simp only [Act.put, List.setIfInBounds_toArray, List.set_cons_zero, List.set_cons_succ]
    refine sqo_take (i := 3) (v := (.slice (some ⟨b, off, none⟩) n c)) (d := 17) rfl (by kernel_rfl) (by kernel_rfl) (by kernel_rfl) (by kernel_rfl) (by kernel_rfl) (fun _ _ _ h => h) ?_ (by assumption) ?_
    · intro w9 h9; exact exec_load_one rfl (by kernel_rfl) (.slice (some ⟨b, off, none⟩) n c) (.slice 25) w9 (HC0.out w9 h9) Try.underlying22 rfl
    try simp only [Act.put, List.setIfInBounds_toArray, List.set_cons_zero, List.set_cons_succ]
    refine sqo_take (i := 4) (v := (.pointer (some ⟨g, 0, none⟩))) (d := 18) rfl (by kernel_rfl) (by kernel_rfl) (by kernel_rfl) (by kernel_rfl) (by kernel_rfl) (fun _ _ _ h => h) ?_ (by assumption) ?_
    · intro w9 h9; kernel_rfl
    try simp only [Act.put, List.setIfInBounds_toArray, List.set_cons_zero, List.set_cons_succ]
    refine sqo_take (i := 5) (v := (.pointer (some ⟨g, 0, none⟩))) (d := 19) rfl (by kernel_rfl) (by kernel_rfl) (by kernel_rfl) (by kernel_rfl) (by kernel_rfl) (fun _ _ _ h => h) ?_ (by assumption) ?_
    · intro w9 h9; kernel_rfl
    try simp only [Act.put, List.setIfInBounds_toArray, List.set_cons_zero, List.set_cons_succ]
    refine sqo_take (i := 6) (v := (.pointer (some ⟨g, 0, none⟩))) (d := 20) rfl (by kernel_rfl) (by kernel_rfl) (by kernel_rfl) (by kernel_rfl) (by kernel_rfl) (fun _ _ _ h => h) ?_ (by assumption) ?_
    · intro w9 h9; kernel_rfl
    try simp only [Act.put, List.setIfInBounds_toArray, List.set_cons_zero, List.set_cons_succ]
    refine sqo_take (i := 7) (v := (.slice (some ⟨b, off, none⟩) n c)) (d := 21) rfl (by kernel_rfl) (by kernel_rfl) (by kernel_rfl) (by kernel_rfl) (by kernel_rfl) (fun _ _ _ h => h) ?_ (by assumption) ?_
    · intro w9 h9; exact exec_load_one rfl (by kernel_rfl) (.slice (some ⟨b, off, none⟩) n c) (.slice 25) w9 (HC0.out w9 h9) Try.underlying22 rfl
    try simp only [Act.put, List.setIfInBounds_toArray, List.set_cons_zero, List.set_cons_succ]
    refine sqo_take (i := 8) (v := (.int .i64 (n : Int))) (d := 22) rfl (by kernel_rfl) (by kernel_rfl) (by kernel_rfl) (by kernel_rfl) (by kernel_rfl) (fun _ _ _ h => h) ?_ (by assumption) ?_
    · intro w9 h9; kernel_rfl
    try simp only [Act.put, List.setIfInBounds_toArray, List.set_cons_zero, List.set_cons_succ]
    refine sqo_take (i := 9) (v := (.int .i64 ((n - 1 : Nat) : Int))) (d := 23) rfl (by kernel_rfl) (by kernel_rfl) (by kernel_rfl) (by kernel_rfl) (by kernel_rfl) (fun _ _ _ h => h) ?_ (by assumption) ?_
    · intro w9 h9; go_simp; rw [IntKind.wrap_i64]; omega
    try simp only [Act.put, List.setIfInBounds_toArray, List.set_cons_zero, List.set_cons_succ]
    refine sqo_take (i := 10) (v := (.pointer (some ⟨b, off + (n - 1) * 32, none⟩))) (d := 24) rfl (by kernel_rfl) (by kernel_rfl) (by kernel_rfl) (by kernel_rfl) (by kernel_rfl) (fun _ _ _ h => h) ?_ (by assumption) ?_
    · intro w9 h9; exact ex_ixa rfl (by kernel_rfl) (by kernel_rfl) (HIX.out w9)
    try simp only [Act.put, List.setIfInBounds_toArray, List.set_cons_zero, List.set_cons_succ]
    refine sqo_take (i := 11) (v := (.agg (u8s d).toArray)) (d := 25) rfl (by kernel_rfl) (by kernel_rfl) (by kernel_rfl) (by kernel_rfl) (by kernel_rfl) (fun _ _ _ h => h) ?_ (by assumption) ?_
    · intro w9 h9; exact exec_load_agg rfl b (off + (n - 1) * 32) (by kernel_rfl) (u8s d) _ (HCX.out w9 h9) Try.underlying25 rfl HDS.out
    try simp only [Act.put, List.setIfInBounds_toArray, List.set_cons_zero, List.set_cons_succ]
    refine sqo_only (i := 12) rfl (by kernel_rfl) (by kernel_rfl) ?_
    have hr12 := fun (a : Act) (o : Oper) (K : Act → World → Prop) (Q : Exit → Act → World → Prop) => @sq_val Try.prog Q a o w1.drew K (.pointer (some ⟨w1.drew.heap.size, 0, none⟩)) (w1.drew.alloc (.cells (zs 32).toArray 25)) 3
    refine hr12 _ _ _ _ ?_ ?_ ?_
    · kernel_rfl
    · kernel_rfl
    clear hr12
    refine ⟨Fr.alloc hS1 _, ?_⟩
    try simp only [Act.put, List.setIfInBounds_toArray, List.set_cons_zero, List.set_cons_succ]
    refine sqo_only (i := 13) rfl (by kernel_rfl) (by kernel_rfl) ?_
    have hr13 := fun (a : Act) (o : Oper) (K : Act → World → Prop) (Q : Exit → Act → World → Prop) => @sq_store Try.prog Q a o (w1.drew.alloc (.cells (zs 32).toArray 25)) K 25 (.tmp 3) (.tmp 25) w1.drew.heap.size 0 (u8s d) (zs 32) 25
    refine hr13 _ _ _ _ ?_ ?_ ?_ ?_ ?_ ?_ ?_ ?_ ?_
    · kernel_rfl
    · kernel_rfl
    · kernel_rfl
    · kernel_rfl
    · exact Blk.new w1.drew _ _
    · exact HFT.out
    · exact u8s_one _
    · exact HDS.out
    clear hr13
    rw [HSP.out]
    refine ⟨Fr.setRow (Fr.alloc hS1 _) (.inr (Nat.le_refl _)) _, ?_⟩
    try simp only [Act.put, List.setIfInBounds_toArray, List.set_cons_zero, List.set_cons_succ]
    refine wpAnyH_done (by kernel_rfl) ?_ _
    go_wp2_with fail
    obtain ⟨w4, hw4⟩ : ∃ W, ((w1.drew.alloc (.cells (zs 32).toArray 25)).setRow w1.drew.heap.size (u8s d).toArray) = W := ⟨_, rfl⟩
    rw [hw4]
    have hS4 : OldW w1 w4 := hw4 ▸ Fr.setRow (Fr.alloc hS1 _) (.inr (Nat.le_refl _)) _
    have HS4 := Lib.hid hS4
    have HD4 := Lib.hid (show Blk w4 w1.drew.heap.size 25 (u8s d).toArray from hw4 ▸ (Blk.new w1.drew _ _).setRow_ _)
    have HG4 := Lib.hid (HG1.out.fr hS4 (by simp)); have HB4 := Lib.hid (HB1.out.fr hS4 (by simp))
    have HC4 := Lib.hid (fun w9 (h9 : OldW w4 w9) => HC0.out w9 (Fr.trans hS4 h9))
    have hI : (1 : Int) ≤ (n : Int) ∧ (n : Int) ≤ (c : Int) := by omega
    clear hw4 hS4 c0 c2 hz0 hz2 hw1 hS1
    have c04 : w4.cell? ⟨g, 0, none⟩ = some (.slice (some ⟨b, off, none⟩) n c) := HC4.out w4 (Fr.refl [] w4)
    have hz4 : w4.frozen? ⟨g, 0, none⟩ = false := HG4.out.frozen 0
    have hs1 : IntKind.i64.wrap ((n : Int) - 1) = (n : Int) - 1 := by rw [IntKind.wrap_i64]; omega
    have hI2 : (n : Int) - 1 ≤ (c : Int) := by omega
    go_still_tail 14, (by kernel_rfl)
    change wpList _ _ _ _ _ _
    have F5 := Lib.hid (show Fr [g] w4 (w4.setCell ⟨g, 0, none⟩ (.slice (some ⟨b, off, none⟩) (n - 1) c)).drew from ((Fr.refl [g] w4).setCell (.inl (by simp)) _).drew)
    have HD5 := Lib.hid (show Blk (w4.setCell ⟨g, 0, none⟩ (.slice (some ⟨b, off, none⟩) (n - 1) c)).drew w1.heap.size 25 (u8s d).toArray from HD4.out.fr F5.out (by simp; have := HG1.out.lt; omega))
    have HB5 := Lib.hid (HB4.out.fr F5.out (by simp; exact HGN.out))
    have HG5 := Lib.hid (show Blk (w4.setCell ⟨g, 0, none⟩ (.slice (some ⟨b, off, none⟩) (n - 1) c)).drew g 54 #[.slice (some ⟨b, off, none⟩) (n - 1) c, v, .bool lk] from (HG4.out.set_ 0 _).drew)
    have HCD := Lib.hid (fun j v hv => by rw [HD5.out.cell, List.getElem?_toArray, Nat.zero_add]; exact hv : ∀ j v, (u8s d)[j]? = some v → (w4.setCell ⟨g, 0, none⟩ (.slice (some ⟨b, off, none⟩) (n - 1) c)).drew.cell? ⟨w1.heap.size, 0 + j, none⟩ = some v)
    go_wp2_with (first
      | (refine wpList_load_agg rfl 25 (.tmp 3) rfl w1.heap.size 0 rfl (u8s d) _ HCD.out Try.underlying25 rfl HDS.out ?_)
      | (refine wpList_store_agg rfl 25 (.tmp 2) (.tmp 40) rfl w.heap.size 0 rfl (u8s d) rfl (zs 32) 25 HB5.out HFT.out (u8s_one _) HDS.out ?_; rw [HSP.out]))
    have hb6 := HB5.out.setRow_ (u8s d).toArray
    refine bodyPost_ret (results_cell_row (p := 2) (ty := 25) rfl _ _ w.heap.size 25 (u8s d).toArray (0, 0) _ rfl hb6 Try.underlying25 rfl (by rw [List.size_toArray]; exact HDS.out)) rfl ?_
    have hF : Fr [g] w ((w4.setCell ⟨g, 0, none⟩ (.slice (some ⟨b, off, none⟩) (n - 1) c)).drew.setRow w.heap.size (u8s d).toArray) := by
      have h1 : Fr [g] w w4 := (F1.out.trans HS4.out).mono (by simp)
      exact (h1.trans F5.out).setRow (.inr (Nat.le_refl _)) _
    obtain ⟨M, hM⟩ : ∃ M, L = M ++ [d] := ⟨L.dropLast, last_some (by rw [List.getLast?_eq_getElem?, HN.out]; exact HDD.out)⟩
    have hML : M.length = n - 1 := by have := HN.out; rw [hM, List.length_append] at this; simp at this; omega
    have e : takeL L lk = (d, M, lk) := by simp [takeL, hM]
    rw [e]
    refine ⟨rfl, ⟨HDG.out, hg, hv, ⟨some ⟨b, off, none⟩, c, ?_, by rw [hML]; omega, ?_, fun _ => HA.out (by omega)⟩, ?_⟩, hF⟩
    · show Blk _ g _ #[.slice _ M.length c, v, .bool lk]
      rw [hML]
      exact HG5.out.setRow_far (Ne.symm HGN.out) _
    · have h1 : DgIn w (some ⟨b, off, none⟩) M := by
        have := HD.out.take M.length
        rwa [hM, List.take_left'] at this
        rfl
      refine dgIn_keep h1 hF (fun hl b' off' hb' hm => ?_)
      have := HA.out (by omega) b' off' hb'
      simp at hm
      omega
    · exact HTX.out.fr hF (fun x hx => by simp at hx; exact .inl (hx ▸ HDG.out)) (fun k hk hm => by simp at hm; subst hm; exact hv hk.symm)
end Go.Proofs.Ytmgbimdebhhckaa
