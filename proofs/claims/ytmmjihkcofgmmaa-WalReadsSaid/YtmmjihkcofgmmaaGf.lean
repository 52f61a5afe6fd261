/- The texts WalA WalTx WalB WalC WalD WalE WalF of this seat, one behind another; what each says stands at its head. -/
import Derived.Test.YtmmjihkcofgmmaaGe
import Derived.Deep.LoopGhost
import Derived.Laws.ResultCell
import Derived.Lib.AppendZerosOnto

/- The log: how many sectors a record needs. -/
namespace Go.Proofs.Ytmmjihkcofgmmaa
open Go.RowKit
set_option maxRecDepth 100000
set_option linter.unusedVariables false

/-- how many sectors a record of n bytes needs -/
def needN (n : Nat) : Nat := if n ≤ 100000 then 1 + (n - 19 + 63) / 64 else 0
def needZ (n : Int) : Int := if n < 0 ∨ 100000 < n then 0 else (needN n.toNat : Int)
theorem needN_le (n : Nat) (h : n ≤ 100000) : needN n = 1 + (n - 19 + 63) / 64 := by unfold needN; rw [if_pos h]
theorem needZ_nat (n : Nat) (h : n ≤ 100000) : needZ (n : Int) = (needN n : Int) := by unfold needZ; rw [if_neg (by omega)]; rfl
def Same (v : Value) (w : World) (e : Ending) (w' : World) : Prop := e = .returned v ∧ w = w'
theorem need_calls (w : World) (n : Int) : Calls Try.prog 9 #[.int .i64 n] w (Same (.int .i64 (needZ n)) w) := by
  by_cases h0 : n < 0
  · have HN := Lib.hid (show needZ n = 0 by unfold needZ; rw [if_pos (by omega)])
    go_enter Try.func9, Try.ntmps9
    go_wp2
    go_ret
    rw [HN.out]
    exact ⟨rfl, rfl⟩
  · by_cases h1 : 100000 < n
    · have HN := Lib.hid (show needZ n = 0 by unfold needZ; rw [if_pos (by omega)])
      go_enter Try.func9, Try.ntmps9
      go_wp2
      go_ret
      rw [HN.out]
      exact ⟨rfl, rfl⟩
    · obtain ⟨k, rfl⟩ := Int.eq_ofNat_of_zero_le (show 0 ≤ n by omega)
      have HN := Lib.hid (show needZ (k : Int) = ((1 + (k - 19 + 63) / 64 : Nat) : Int) by rw [needZ_nat k (by omega), needN_le k (by omega)])
      go_enter Try.func9, Try.ntmps9
      go_wp2
      all_goals go_ret
      all_goals rw [HN.out]
      all_goals exact ⟨congrArg (fun x => Ending.returned (.int .i64 x)) (by omega), rfl⟩
theorem rneed_calls (w : World) (n : Int) (h1 : -9223372036854775808 ≤ n) (h2 : n ≤ 9223372036854775807) : Calls Try.prog 10 #[.int .i64 n] w (Same (.int .i64 (needZ n)) w) := by
  by_cases h : n < 0 ∨ 100000 < n
  · have HN := Lib.hid (show needZ n = 0 by unfold needZ; rw [if_pos h])
    have hc : n < 0 ∨ (0 ≤ n ∧ 100000 < n) := by omega
    clear h
    rcases hc with h | ⟨h, h'⟩ <;> (
      go_enter Try.func10, Try.ntmps10
      go_wp2
      go_ret
      rw [HN.out]
      exact ⟨rfl, rfl⟩)
  · obtain ⟨k, rfl⟩ := Int.eq_ofNat_of_zero_le (show 0 ≤ n by omega)
    have HN := Lib.hid (show needZ (k : Int) = ((1 + (k - 19 + 63) / 64 : Nat) : Int) by rw [needZ_nat k (by omega), needN_le k (by omega)])
    have hkI : (0 : Int) ≤ (k : Int) ∧ (k : Int) ≤ 100000 := by omega
    clear h h1 h2
    go_enter Try.func10, Try.ntmps10
    go_wp2
    go_loopg [3, 4] 3000 (fun gg u v wr => ∃ j : Nat, 64 * j ≤ k - 19 + 63 ∧ gg = 3000 - j ∧ u = .int .i64 (1 + (j : Int)) ∧ v = .int .i64 ((k : Int) - 19 - 64 * (j : Int)) ∧ w = wr)
    case atStart => exact ⟨0, by omega, by omega, rfl, by simp, rfl⟩
    case round =>
      obtain ⟨j, hj, rfl, rfl, rfl, rfl⟩ := hrel
      by_cases hl : (0 : Int) < (k : Int) - 19 - 64 * (j : Int)
      · have hjI : (0 : Int) ≤ (j : Int) ∧ (j : Int) ≤ 2000 := by omega
        go_wp2
        go_roundg (3000 - (j + 1))
        case measure => omega
        case rel => exact ⟨j + 1, by omega, rfl, congrArg (Value.int .i64) (by omega), congrArg (Value.int .i64) (by omega), rfl⟩
      · have hjI : (0 : Int) ≤ (j : Int) ∧ (j : Int) ≤ 2000 := by omega
        go_wp2
        go_ret
        rw [HN.out]
        exact ⟨congrArg (fun x => Ending.returned (.int .i64 x)) (by omega), rfl⟩
end Go.Proofs.Ytmmjihkcofgmmaa

/- Rows of texts of the call's own. -/
namespace Go.Proofs.Ytmmjihkcofgmmaa
open Go.RowKit
set_option maxRecDepth 100000
set_option linter.unusedVariables false

/-- texts in a row of slices of the call's own -/
def TxRow (w : World) (v : Value) (D : List Nat) (base : Nat) (T : List (List UInt8)) : Prop :=
  ∃ vs : List Value, vs.length = T.length ∧ w.ownsRow base 26 1 v T.length vs ∧
    ∀ (i : Nat) (t : List UInt8), T[i]? = some t → ∃ (A : Option Addr) (c : Nat), vs[i]? = some (Value.slice A t.length c) ∧ Rd w A t ∧ (0 < t.length → ∀ b off, A = some ⟨b, off, none⟩ → b ∉ D ∧ some b ≠ v.ownBlock) ∧ t.length ≤ c
theorem exec_load_one {P : Program} {a : Act} {o : Oper} {ty : TypeId} {x : Operand} (ho : o.op = .load ty x) {p : Addr} (hx : a.eval x = .pointer (some p)) (v : Value) (d : TypeDesc) (w : World) (hc : w.cell? p = some v)
    (hu : P.underlying ty = some d) (hd : (match d with | .struct _ | .array _ _ => true | _ => false) = false) : (execOp a.eval o).run P w = .ok (.value v) w := by
  have h1 : (isAgg ty).run P w = .ok false w := by
    unfold isAgg
    rw [Sem.run_bind, run_underlying hu w]
    cases d <;> simp_all
  unfold execOp
  simp [ho, hx, Instr.loadAt, Instr.sureAddr, loadVar, Sem.run_bind, h1, hc]
theorem TxRow.fr {w w' : World} {v : Value} {D : List Nat} {base : Nat} {T : List (List UInt8)} {S : List Nat} (h : TxRow w v D base T) (hf : Fr S w w') (hS : ∀ x ∈ S, x ∈ D ∨ w.heap.size ≤ x) (hv : ∀ k, v.ownBlock = some k → k ∉ S) : TxRow w' v D base T := by
  obtain ⟨vs, h1, h2, h3⟩ := h
  refine ⟨vs, h1, own_fr h2 hf hv, fun i t ht => ?_⟩
  obtain ⟨A, c, e1, e2, e3⟩ := h3 i t ht
  refine ⟨A, c, e1, e2.fr0 hf (fun hl b off hb hm => ?_), e3⟩
  rcases hS b hm with hd | hge
  · exact (e3.1 hl b off hb).1 hd
  · subst hb
    have := e2.lt hl
    omega
theorem wpList_wanted {P : Program} {ops : Array Oper} {rest : List Oper} {o : Oper} {a : Act} {w w' : World} {Q : Exit → Act → World → Prop} {v : Value} (hw : Region.wanted o (yielded ops a.tmps) = true)
    (he : (execOp a.eval o).run P w = .ok (.value v) w') (h : wpList P ops Q rest (a.put o.dst v) w') : wpList P ops Q (o :: rest) a w :=
  wpList_step fun K hK => by rw [if_pos hw]; exact opwp_val he (hK _ _ h)
theorem ex_ixa {P : Program} {a : Act} {o : Oper} {t : TypeId} {x y : Operand} {u i v : Value} {w : World} (ho : o.op = .indexAddr t x y) (hx : a.eval x = u) (hy : a.eval y = i) (h : (Instr.indexAt t u i).run P w = .ok v w) : (execOp a.eval o).run P w = .ok (.value v) w := by
  unfold execOp
  simp [ho, hx, hy, h]
/-- one cell is stored -/
theorem sq_store1 {P : Program} {Q : Exit → Act → World → Prop} {a : Act} {o : Oper} {w : World} {K : Act → World → Prop} (ty : TypeId) (p x : Operand) (g off : Nat) (v : Value) (cur row : List Value) (t : TypeId) (ho : o.op = .store ty p x) (hd : o.dst = none)
    (hp : a.eval p = .pointer (some ⟨g, off, none⟩)) (hx : a.eval x = v) (hv : v.cells = #[v]) (hrow : splice cur off [v] = row) (hg : Blk w g t cur.toArray) (hfit : off + 1 ≤ cur.length) (h1 : v.oneCell' = true)
    (hi : (P.info? ty).map (·.size) = some 1) (hk : K a (w.setRow g row.toArray)) : Oper.wp P o a w K Q := by
  subst hrow
  refine opwp_skip (w' := w.setRow g (splice cur off [v]).toArray) ?_ (by rw [hd]; exact hk)
  have hst := run_storeCells_at P g off t [v] 0 cur.toArray w hg (by simpa using hfit) (by simpa using h1)
  cases hq : P.info? ty with
  | none => simp [hq] at hi
  | some i =>
    have hs : i.size = 1 := by simpa [hq] using hi
    unfold execOp
    simp only [ho, hp, hx]
    simp [Instr.storeAt, Instr.sureAddr, storeVar, sizeOf, typeInfo, hq, hs, hv, hst, splice]
theorem infoSl : (Try.prog.info? 26).map (fun i => (i.zero, i.size, i.bytes)) = some (some (.slice none 0 0), 1, 24) := by kernel_rfl
theorem own_slice {w : World} {base : Nat} {e : TypeId} {size : Nat} {v : Value} {n : Nat} {xs : List Value} (h : w.ownsRow base e size v n xs) : ∃ A c, v = .slice A n c := by
  rcases h.2 with ⟨rfl, h0⟩ | ⟨g, cap, cur, rfl, _⟩
  · exact ⟨none, 0, by rw [h0]⟩
  · exact ⟨_, cap, rfl⟩
theorem rd_row {w : World} {B : Nat} {t : TypeId} {x : List UInt8} (h : Blk w B t (u8s x).toArray) : ∀ j v, (u8s x)[j]? = some v → w.cell? ⟨B, 0 + j, none⟩ = some v :=
  fun j v hv => by rw [h.cell, List.getElem?_toArray, Nat.zero_add]; exact hv
theorem results_tmp_cell_row {P : Program} {fn : Func} {u p : Tmp} {ty : TypeId} (h : fn.results = #[.tmp u, .cell p ty]) (tmps : Array Value) (w : World) (g : Nat) (t : TypeId) (cs : Array Value) (d : TypeDesc)
    (hp : tmps.getD p undef = .pointer (some ⟨g, 0, none⟩)) (hg : Blk w g t cs)
    (hu : P.underlying ty = some d) (hd : (match d with | .struct _ | .array _ _ => true | _ => false) = true) (hi : (P.info? ty).map (·.size) = some cs.size) :
    (results fn tmps).run P w = .ok (.tuple #[tmps.getD u undef, .agg cs]) w := by
  have hp' : tmps[p]?.getD undef = .pointer (some ⟨g, 0, none⟩) := by simpa using hp
  simp [results, h, hp', asAddr, run_loadVar_row w g t ty cs (0, 0) d hg hu hd hi, Sem.run_bind, Result.andThen]
theorem TxRow.less {w : World} {v : Value} {D E : List Nat} {b base : Nat} {T : List (List UInt8)} (h : TxRow w v E base T) (hb : b ≤ base) (hD : ∀ y ∈ D, y ∈ E) : TxRow w v D b T := by
  obtain ⟨vs, h1, h2, h3⟩ := h
  exact ⟨vs, h1, own_mono h2 hb, fun i t ht => let ⟨A, c, e1, e2, e3⟩ := h3 i t ht; ⟨A, c, e1, e2, fun hl b off hb => ⟨fun hm => (e3.1 hl b off hb).1 (hD b hm), (e3.1 hl b off hb).2⟩, e3.2⟩⟩
theorem TxRow.nil (w : World) (D : List Nat) (base : Nat) : TxRow w (.slice none 0 0) D base [] := ⟨[], rfl, World.ownsRow_nil _ _ _ _, fun i t ht => by simp at ht⟩
theorem own_cells {w : World} {base : Nat} {e : TypeId} {v : Value} {n : Nat} {xs : List Value} (h : w.ownsRow base e 1 v n xs) : ∃ A c, v = .slice A n c ∧ n ≤ c ∧ (0 < n → ∃ g, A = some ⟨g, 0, none⟩ ∧ base ≤ g ∧ g < w.heap.size) ∧ ∀ j u, xs[j]? = some u → ∃ g, A = some ⟨g, 0, none⟩ ∧ g < w.heap.size ∧ w.cell? ⟨g, j, none⟩ = some u := by
  have hl := h.1
  rcases h.2 with ⟨rfl, h0⟩ | ⟨g, cap, cur, rfl, hb, hg, hnc, _, hsz, htk⟩
  · subst h0
    exact ⟨none, 0, rfl, Nat.le_refl _, by omega, fun j u hu => by have := (List.getElem?_eq_some_iff.1 hu).1; omega⟩
  · have hgl := (Array.getElem?_eq_some_iff.1 hg).1
    refine ⟨_, cap, rfl, hnc, fun _ => ⟨g, rfl, hb, hgl⟩, fun j u hu => ⟨g, rfl, hgl, ?_⟩⟩
    have hj := (List.getElem?_eq_some_iff.1 hu).1
    have := h.cellAt j (by omega)
    rw [this]; exact hu
theorem own_le {w : World} {base : Nat} {e : TypeId} {A : Option Addr} {m n c : Nat} {xs : List Value} (h : w.ownsRow base e 1 (.slice A m c) n xs) : n ≤ c := by
  obtain ⟨A', c', h1, h2, _⟩ := own_cells h
  injection h1 with _ _ h1
  omega
theorem TxRow.toIn {w : World} {v : Value} {D : List Nat} {base : Nat} {T : List (List UInt8)} (h : TxRow w v D base T) : ∃ A c, v = .slice A T.length c ∧ T.length ≤ c ∧ TxIn w A T := by
  obtain ⟨vs, h1, h2, h3⟩ := h
  obtain ⟨A, c, rfl, hc, _, hcell⟩ := own_cells h2
  refine ⟨A, c, rfl, hc, fun i t ht => ?_⟩
  obtain ⟨B, d, e1, e2, _⟩ := h3 i t ht
  obtain ⟨g, rfl, hg, hcl⟩ := hcell i _ e1
  exact ⟨g, 0, B, d, rfl, hg, by rw [Nat.zero_add]; exact hcl, e2⟩
theorem TxRow.frD {w w' : World} {v : Value} {D : List Nat} {base : Nat} {T : List (List UInt8)} (h : TxRow w v D base T) (hf : Fr [] w w') : TxRow w' v D base T := h.fr hf (by simp) (by simp)
theorem TxRow.lt {w : World} {v : Value} {D : List Nat} {base : Nat} {T : List (List UInt8)} (h : TxRow w v D base T) : ∀ k, v.ownBlock = some k → base ≤ k ∧ k < w.heap.size := by
  obtain ⟨vs, _, h2, _⟩ := h
  exact fun k hk => h2.lt k hk
section
variable {P : Program} {md : Region.Mode} {ops : Array Oper} {Q : Exit → Act → World → Prop} {S : World → Prop}
theorem sqs_take {i : Nat} {oi : Oper} {v : Value} {d : Tmp} {fuel : Nat} {listed : Array Bool} {a : Act} {w : World} (hi : ops[i]? = some oi) (hd : oi.dst = some d) (hg : Region.wanted oi (yielded ops a.tmps) = true)
    (hs : Region.noSelect ops = true) (hf : Region.free md ops listed i = true) (hr : (Region.ready md ops listed).contains i = true)
    (hQ : ∀ c a w, Q (.panic c) (a.put (some d) v) w → Q (.panic c) a w) (hy : ∀ w', S w' → (execOp a.eval oi).run P w' = .ok (.value v) w') (hS : S w)
    (h : wpAnyH P md ops Q S fuel (listed.setIfInBounds i true) (a.put (some d) v) w) : wpAnyH P md ops Q S (fuel + 1) listed a w :=
  wpAnyH_take hi hs hf hr (by rw [hd]; exact hQ) (Or.inl ⟨hg, hy⟩) hS (by rw [hd]; exact h)
theorem sqs_pass {i : Nat} {oi : Oper} {d : Tmp} {fuel : Nat} {listed : Array Bool} {a : Act} {w : World} (hi : ops[i]? = some oi) (hd : oi.dst = some d) (hg : Region.wanted oi (yielded ops a.tmps) = false)
    (hs : Region.noSelect ops = true) (hf : Region.free md ops listed i = true) (hr : (Region.ready md ops listed).contains i = true)
    (hQ : ∀ c a w, Q (.panic c) (a.put (some d) undef) w → Q (.panic c) a w) (hS : S w)
    (h : wpAnyH P md ops Q S fuel (listed.setIfInBounds i true) (a.put (some d) undef) w) : wpAnyH P md ops Q S (fuel + 1) listed a w :=
  wpAnyH_take (v := undef) hi hs hf hr (by rw [hd]; exact hQ) (Or.inr ⟨hg, rfl⟩) hS (by rw [hd]; exact h)
theorem sqs_only {i : Nat} {o : Oper} {fuel : Nat} {listed : Array Bool} {a : Act} {w : World} (hi : ops[i]? = some o) (hg : Region.wanted o (yielded ops a.tmps) = true) (hr : Region.ready md ops listed = [i])
    (h : Oper.wp P o a w (fun a' w' => S w' ∧ wpAnyH P md ops Q S fuel (listed.setIfInBounds i true) a' w') Q) : wpAnyH P md ops Q S (fuel + 1) listed a w := by
  refine wpAnyH_all hr (by simp) fun j hj => ?_
  obtain rfl := List.mem_singleton.1 hj
  unfold wpOp
  rw [hi]
  simp only [hg, if_true]
  exact .inl h
theorem sqs_begin (S : World → Prop) {id : Nat} {a : Act} {w : World} (hm : P.follows .mixedOrders = true)
    (h : wpAnyH P .any ops Q S ops.size (Array.replicate ops.size false) a w.drew) : (Code.region id ops true).wp P Q a w := wp_region_held hm h
end
/-- one text is appended to a row of texts -/
theorem sq_appTx1 {Q : Exit → Act → World → Prop} {o : Oper} {a : Act} {w : World} {K : Act → World → Prop} (hgd : o.guard = none) (s x : Operand) (d : Tmp) (hd : o.dst = some d)
    (ho : o.op = .call { callee := .builtin .append, args := #[s, x], argTypes := #[25, 25] })
    (base : Nat) (v : Value) (D : List Nat) (T : List (List UInt8)) (hs : a.eval s = v) (h1 : TxRow w v D base T) (t : List UInt8) (A : Option Addr) (n c g ce : Nat) (hn : t.length = n) (hx : a.eval x = .slice (some ⟨g, 0, none⟩) 1 ce) (hg : Blk w g 26 #[.slice A n c])
    (hr : Rd w A t) (hA : 0 < t.length → ∀ b off, A = some ⟨b, off, none⟩ → b ∉ D ∧ some b ≠ v.ownBlock) (hnc : n ≤ c) (hbd : T.length ≤ 1000000) (hbase : base ≤ w.heap.size)
    (h : ∀ v' w', TxRow w' v' D base (T ++ [t]) → Fr v.ownBlock.toList w w' → (∀ k, v'.ownBlock = some k → v.ownBlock = some k ∨ k = w.heap.size) → K (a.put (some d) v') w') : Oper.wp Try.prog o a w K Q := by
  subst hn
  have hw : Region.wanted o (yielded #[] a.tmps) = true := by simp [Region.wanted, hgd]
  obtain ⟨vs1, p1, q1, r1⟩ := h1
  have hsrc : 0 < [Value.slice A t.length c].length → ∃ ad, (some (⟨g, 0, none⟩ : Addr)) = some ad ∧ ∀ j u, [Value.slice A t.length c][j]? = some u → w.cell? (ad.add j) = some u := fun _ => ⟨_, rfl, fun j u hu => by
    match j with
    | 0 => simp at hu; subst hu; rw [addr_add0, hg.cell]; rfl
    | j + 1 => simp at hu⟩
  have := step_append (P := Try.prog) (ops := #[]) (K := K) (Q := Q) (E := True) (a := a) (w := w) hw s x 25 ho base 26 (.slice none 0 0) 1 24 Try.underlying25 infoSl rfl (by decide) v T.length vs1 hs q1
    (some ⟨g, 0, none⟩) 1 ce [.slice A t.length c] hx rfl hsrc (by simp [Value.oneCell']) (by unfold maxLen; omega) (by omega) hbase
    (fun v' w' ho' _ hg' hb => by
      rw [hd]
      have hf : Fr v.ownBlock.toList w w' := (Fr.refl _ _).grown hg' (fun k hk => .inl (by simp [hk]))
      refine h v' w' ⟨vs1 ++ [.slice A t.length c], by simp [p1], by simpa using ho', fun i t' ht => ?_⟩ hf (fun k hk => by
        rcases hb with hb | hb
        · rw [hb] at hk; exact .inl hk
        · rw [hb] at hk; injection hk with hk; exact .inr hk.symm)
      have key : ∀ (B : Option Addr) (u : List UInt8), Rd w B u → (0 < u.length → ∀ b off, B = some ⟨b, off, none⟩ → b ∉ D ∧ some b ≠ v.ownBlock) → Rd w' B u ∧ (0 < u.length → ∀ b off, B = some ⟨b, off, none⟩ → b ∉ D ∧ some b ≠ v'.ownBlock) := by
        intro B u hB hn
        refine ⟨hB.fr0 hf (fun hl b off hb' hm => ?_), fun hl b off hb' => ⟨(hn hl b off hb').1, ?_⟩⟩
        · simp only [Option.mem_toList] at hm
          exact (hn hl b off hb').2 hm.symm
        · rcases hb with hb | hb
          · rw [hb]; exact (hn hl b off hb').2
          · rw [hb]
            subst hb'
            have := hB.lt hl
            intro e
            injection e with e
            omega
      rcases Nat.lt_or_ge i T.length with hi | hi
      · rw [List.getElem?_append_left hi] at ht
        obtain ⟨B, dd, e1, e2, e3⟩ := r1 i t' ht
        obtain ⟨k1, k2⟩ := key B t' e2 e3.1
        exact ⟨B, dd, by rw [List.getElem?_append_left (by omega)]; exact e1, k1, k2, e3.2⟩
      · rw [List.getElem?_append_right hi] at ht
        have h0 : i - T.length = 0 := by
          have := (List.getElem?_eq_some_iff.1 ht).1
          simp at this; omega
        rw [h0] at ht
        simp at ht
        subst ht
        obtain ⟨k1, k2⟩ := key A t hr hA
        exact ⟨A, c, by rw [List.getElem?_append_right (by omega), p1, h0]; rfl, k1, k2, hnc⟩)
  rwa [if_pos hw] at this
theorem wpList_appTx1 {ops : Array Oper} {rest : List Oper} {o : Oper} {a : Act} {w : World} {Q : Exit → Act → World → Prop} (hgd : o.guard = none) (s x : Operand) (d : Tmp) (hd : o.dst = some d)
    (ho : o.op = .call { callee := .builtin .append, args := #[s, x], argTypes := #[25, 25] })
    (base : Nat) (v : Value) (D : List Nat) (T : List (List UInt8)) (hs : a.eval s = v) (h1 : TxRow w v D base T) (t : List UInt8) (A : Option Addr) (n c g ce : Nat) (hn : t.length = n) (hx : a.eval x = .slice (some ⟨g, 0, none⟩) 1 ce) (hg : Blk w g 26 #[.slice A n c])
    (hr : Rd w A t) (hA : 0 < t.length → ∀ b off, A = some ⟨b, off, none⟩ → b ∉ D ∧ some b ≠ v.ownBlock) (hnc : n ≤ c) (hbd : T.length ≤ 1000000) (hbase : base ≤ w.heap.size)
    (h : ∀ v' w', TxRow w' v' D base (T ++ [t]) → Fr v.ownBlock.toList w w' → (∀ k, v'.ownBlock = some k → v.ownBlock = some k ∨ k = w.heap.size) → wpList Try.prog ops Q rest (a.put (some d) v') w') : wpList Try.prog ops Q (o :: rest) a w :=
  wpList_plain hgd fun K hK => sq_appTx1 (K := K) hgd s x d hd ho base v D T hs h1 t A n c g ce hn hx hg hr hA hnc hbd hbase (fun v' w' a b c => hK _ _ (h v' w' a b c))
end Go.Proofs.Ytmmjihkcofgmmaa

/- The log: a number's bytes, a record's sum. -/
namespace Go.Proofs.Ytmmjihkcofgmmaa
open Go.RowKit
set_option linter.unusedVariables false

theorem BytesOk.base {w0 w w' : World} {m : Nat} {l : List UInt8} {e : Ending} (h : BytesOk w m l e w') (f : Fr [] w0 w) : BytesOk w0 m l e w' := by
  obtain ⟨A, c, h1, h2, h3, h4, h5, h6⟩ := h
  exact ⟨A, c, h1, h2, h3, fun b off hA => ⟨Nat.le_trans f.size (h4 b off hA).1, (h4 b off hA).2⟩, h5, f.trans h6⟩
theorem number_calls (w : World) (n : Int) (h1 : -9223372036854775808 ≤ n) (h2 : n ≤ 9223372036854775807) :
    Calls Try.prog 52 #[.int .i64 n] w (BytesOk w 8 (numB n)) := by
  obtain ⟨w1, hw1⟩ : ∃ W, w.alloc (.cells #[.slice none 0 0, .int .i64 0] 102) = W := ⟨_, rfl⟩
  have f1 : Fr [] w w1 := hw1 ▸ (Fr.refl [] w).alloc _
  have HN := Lib.hid (num_calls w1 w.heap.size [] [] 0 (hw1 ▸ isW_new w) n h1 h2 (by simp))
  have F1 := Lib.hid f1
  clear f1 h1 h2
  go_enter Try.func52, Try.ntmps52
  go_wp2_with (first
    | (refine box_agg rfl 102 (.tmp 4) rfl #[.slice none 0 0, .int .i64 0] rfl ?_; rw [hw1])
    | (go_at_call 62; (refine HN.out.mono ?_); rintro e w2 ⟨rfl, ob, hw2, hob, f2⟩; have HB := Lib.hid (bytes_ok w2 w.heap.size ob _ hw2 8 (numB_length n) (by omega)); have F2 := Lib.hid (F1.out.trans' f2 (fun x hx => by simp only [List.mem_singleton] at hx; exact .inr (by omega))); clear hw2 hob f2)
    | (go_at_call 64; (refine HB.out.mono ?_); rintro e w3 h3; have H3 := Lib.hid (h3.base F2.out); obtain ⟨A3, c3, rfl, -⟩ := h3))
  go_ret
  exact H3.out
theorem rd_row' {w : World} {B : Nat} {t : TypeId} {x : List UInt8} (h : Blk w B t (u8s x).toArray) : Rd w (some ⟨B, 0, none⟩) x := rdB_blk (tl := []) (by rw [List.append_nil]; exact h)
theorem tx3 {w : World} {B : Nat} {t : TypeId} {A1 A2 A3 : Option Addr} {n1 n2 n3 c1 c2 c3 : Nat} {t1 t2 t3 : List UInt8} (h : Blk w B t #[.slice A1 n1 c1, .slice A2 n2 c2, .slice A3 n3 c3]) (l1 : t1.length = n1) (r1 : Rd w A1 t1) (l2 : t2.length = n2) (r2 : Rd w A2 t2) (l3 : t3.length = n3) (r3 : Rd w A3 t3) :
    TxIn w (some ⟨B, 0, none⟩) [t1, t2, t3] := fun i t ht => by
  subst l1 l2 l3
  match i with
  | 0 => simp at ht; subst ht; exact ⟨B, 0, A1, c1, rfl, h.lt, by rw [h.cell]; rfl, r1⟩
  | 1 => simp at ht; subst ht; exact ⟨B, 0, A2, c2, rfl, h.lt, by rw [h.cell]; rfl, r2⟩
  | 2 => simp at ht; subst ht; exact ⟨B, 0, A3, c3, rfl, h.lt, by rw [h.cell]; rfl, r3⟩
  | i + 3 => simp at ht
theorem digF (x : List UInt8) (hx : x.length = 32) : 0 + (u8s x).length ≤ (zs 32).length ∧ (Try.prog.info? 41).map (·.size) = some (u8s x).length ∧ splice (zs 32) 0 (u8s x) = u8s x :=
  ⟨by simp [zs_length, hx], dig_size x hx, splice_32 x hx⟩
/-- a record's sum -/
def sumR (last : List UInt8) (n : Nat) (b : List UInt8) : List UInt8 := shaB (preB 87 [last, numB (n : Int), b])
theorem sumR_length (last : List UInt8) (n : Nat) (b : List UInt8) : (sumR last n b).length = 32 := shaB_length _
set_option maxHeartbeats 1000000 in
theorem sumOf_calls (w : World) (last : List UInt8) (hl : last.length = 32) (n : Nat) (hn : n ≤ 1000000000) (A : Option Addr) (m c : Nat) (b : List UInt8) (hm : b.length = m) (hA : Rd w A b) (hmb : m ≤ 10000000) :
    Calls Try.prog 36 #[.agg (u8s last).toArray, .int .i64 (n : Int), .slice A m c] w (Agg (.agg (u8s (sumR last n b)).toArray) w) := by
  obtain ⟨w1, hw1⟩ : ∃ W, w.alloc (.cells (u8s last).toArray 41) = W := ⟨_, rfl⟩
  obtain ⟨w2, hw2⟩ : ∃ W, w1.alloc (.cells (zs 32).toArray 41) = W := ⟨_, rfl⟩
  have f1 : Fr [] w w1 := hw1 ▸ (Fr.refl [] w).alloc _
  have f2 : Fr [] w1 w2 := hw2 ▸ (Fr.refl [] w1).alloc _
  have hl1 : Blk w1 w.heap.size 41 (u8s last).toArray := hw1 ▸ Blk.new w _ _
  have HL2 := Lib.hid (hl1.fr f2 (by simp)); have HO2 := Lib.hid (show Blk w2 w1.heap.size 41 (zs 32).toArray from hw2 ▸ Blk.new w1 _ _)
  have F2 := Lib.hid (f1.trans f2); have HS1 := Lib.hid f1.size
  have HN1 := Lib.hid (show -9223372036854775808 ≤ (n : Int) by omega); have HN2 := Lib.hid (show (n : Int) ≤ 9223372036854775807 by omega)
  have HL32 := Lib.hid hl; have HM := Lib.hid hm; have HA := Lib.hid hA
  have HBD := Lib.hid (show (preB 87 [last, numB (n : Int), b]).length ≤ 100000000 by simp [preB, eightB_length, numB_length, hl]; omega)
  have HDF := Lib.hid (digF (shaB (preB 87 [last, numB (n : Int), b])) (shaB_length _))
  clear f1 f2 hl1 hn hl hm hA hmb
  go_enter Try.func36, Try.ntmps36
  go_wp2_with (first
    | (refine box_agg rfl 41 (.tmp 0) rfl (u8s last).toArray rfl ?_; rw [hw1])
    | (refine wpList_alloc_agg rfl 41 rfl (zs 32).toArray arr32_zero ?_; rw [hw2]))
  have hS2 : OldW w w2.drew := F2.out.trans (Fr.refl [] w2).drew
  refine sqo_begin (w0 := w) (by kernel_rfl) ?_
  refine sqo_take (i := 0) (v := (.slice (some ⟨w.heap.size, 0, none⟩) 32 32)) (d := 7) rfl (by kernel_rfl) (by kernel_rfl) (by kernel_rfl) (by kernel_rfl) (by kernel_rfl) (fun _ _ _ h => h) ?_ (by assumption) ?_
  · intro w9 h9; kernel_rfl
  try simp only [Act.put, List.setIfInBounds_toArray, List.set_cons_zero, List.set_cons_succ]
  refine sqo_take (i := 1) (v := (.int .i64 (n : Int))) (d := 8) rfl (by kernel_rfl) (by kernel_rfl) (by kernel_rfl) (by kernel_rfl) (by kernel_rfl) (fun _ _ _ h => h) ?_ (by assumption) ?_
  · intro w9 h9; kernel_rfl
  try simp only [Act.put, List.setIfInBounds_toArray, List.set_cons_zero, List.set_cons_succ]
  refine sqo_take (i := 3) (v := (.slice A m c)) (d := 10) rfl (by kernel_rfl) (by kernel_rfl) (by kernel_rfl) (by kernel_rfl) (by kernel_rfl) (fun _ _ _ h => h) ?_ (by assumption) ?_
  · intro w9 h9; kernel_rfl
  try simp only [Act.put, List.setIfInBounds_toArray, List.set_cons_zero, List.set_cons_succ]
  refine sqo_only (i := 2) rfl (by kernel_rfl) (by kernel_rfl) ?_
  have hr2 := fun (a₀ : Act) (o₀ : Oper) (K₀ : Act → World → Prop) (Q₀ : Exit → Act → World → Prop) => @sq_call Try.prog Q₀ a₀ o₀ w2.drew K₀ (BytesOk w2.drew 8 (numB (n : Int))) 52 #[.int .i64 (n : Int)] 9
  refine hr2 _ _ _ _ ?_ ?_ ?_ ?_
  · kernel_rfl
  · kernel_rfl
  · exact (number_calls w2.drew (n : Int) HN1.out HN2.out)
  rintro e w3 ⟨A3, c3, rfl, hc3, hr3, hb3, _, f9⟩
  have HR3 := Lib.hid hr3
  have hS3 := OldW.step hS2 f9
  have HL3 := Lib.hid ((HL2.out.drew).fr f9 (by simp))
  have HO3 := Lib.hid ((HO2.out.drew).fr f9 (by simp))
  have HA3 := Lib.hid (HA.out.fr hS3 (by simp))
  clear f9 hr3 hb3 hc3
  refine ⟨_, rfl, hS3, ?_⟩
  clear hr2
  try simp only [Act.put, List.setIfInBounds_toArray, List.set_cons_zero, List.set_cons_succ]
  refine sqo_only (i := 4) rfl (by kernel_rfl) (by kernel_rfl) ?_
  have hr4 := fun (a₀ : Act) (o₀ : Oper) (K₀ : Act → World → Prop) (Q₀ : Exit → Act → World → Prop) => @sq_val Try.prog Q₀ a₀ o₀ w3 K₀ (.slice (some ⟨w3.heap.size, 0, none⟩) 3 3) (w3.alloc (.cells #[.slice (some ⟨w.heap.size, 0, none⟩) 32 32, .slice A3 8 c3, .slice A m c] 26)) 11
  refine hr4 _ _ _ _ ?_ ?_ ?_
  · kernel_rfl
  · kernel_rfl
  clear hr4
  refine ⟨(OldW.step hS3 ((Fr.refl [] w3).alloc _)), ?_⟩
  try simp only [Act.put, List.setIfInBounds_toArray, List.set_cons_zero, List.set_cons_succ]
  obtain ⟨w4, hw4⟩ : ∃ W, w3.alloc (.cells #[.slice (some ⟨w.heap.size, 0, none⟩) 32 32, .slice A3 8 c3, .slice A m c] 26) = W := ⟨_, rfl⟩
  rw [hw4]
  have f34 : Fr [] w3 w4 := hw4 ▸ (Fr.refl [] w3).alloc _
  have hb4 : Blk w4 w3.heap.size 26 #[.slice (some ⟨w.heap.size, 0, none⟩) 32 32, .slice A3 8 c3, .slice A m c] := hw4 ▸ Blk.new w3 _ _
  have hS4 : OldW w w4 := OldW.step hS3 f34
  have HO4 := Lib.hid (HO3.out.fr f34 (by simp))
  have HT4 := Lib.hid (show TxIn w4 (some ⟨w3.heap.size, 0, none⟩) [last, numB (n : Int), b] from tx3 hb4 HL32.out (rd_row' (HL3.out.fr f34 (by simp))) (numB_length _) (HR3.out.fr f34 (by simp)) HM.out (HA3.out.fr f34 (by simp)))
  clear hw4 f34 hb4
  refine sqo_only (i := 5) rfl (by kernel_rfl) (by kernel_rfl) ?_
  have hr5 := fun (a₀ : Act) (o₀ : Oper) (K₀ : Act → World → Prop) (Q₀ : Exit → Act → World → Prop) => @sq_call Try.prog Q₀ a₀ o₀ w4 K₀ (Agg (.agg (u8s (shaB (preB 87 [last, numB (n : Int), b]))).toArray) w4) 51 #[.int .u8 ((87 : UInt8).toNat : Int), .slice (some ⟨w3.heap.size, 0, none⟩) 3 3] 12
  refine hr5 _ _ _ _ ?_ ?_ ?_ ?_
  · kernel_rfl
  · kernel_rfl
  · exact (hash_calls w4 87 _ 3 3 _ rfl HT4.out HBD.out (by omega))
  rintro e w5 ⟨rfl, f9⟩
  have hS5 := OldW.step hS4 f9
  have HO5 := Lib.hid (HO4.out.fr f9 (by simp))
  clear f9
  refine ⟨_, rfl, hS5, ?_⟩
  clear hr5
  try simp only [Act.put, List.setIfInBounds_toArray, List.set_cons_zero, List.set_cons_succ]
  refine sqo_only (i := 6) rfl (by kernel_rfl) (by kernel_rfl) ?_
  have hr6 := fun (a₀ : Act) (o₀ : Oper) (K₀ : Act → World → Prop) (Q₀ : Exit → Act → World → Prop) => @sq_store Try.prog Q₀ a₀ o₀ w5 K₀ 41 (.tmp 6) (.tmp 12) w1.heap.size 0 (u8s (shaB (preB 87 [last, numB (n : Int), b]))) (zs 32) 41
  refine hr6 _ _ _ _ ?_ ?_ ?_ ?_ ?_ ?_ ?_ ?_ ?_
  · kernel_rfl
  · kernel_rfl
  · kernel_rfl
  · kernel_rfl
  · exact HO5.out
  · exact HDF.out.1
  · exact u8s_one _
  · exact HDF.out.2.1
  clear hr6
  rw [HDF.out.2.2]
  refine ⟨(Fr.setRow hS5 (.inr HS1.out) _), ?_⟩
  try simp only [Act.put, List.setIfInBounds_toArray, List.set_cons_zero, List.set_cons_succ]
  refine wpAnyH_done (by kernel_rfl) ?_ _
  go_wp2_with fail
  refine bodyPost_ret (results_cell_row (p := 6) (ty := 41) rfl _ _ w1.heap.size 41 (u8s (shaB (preB 87 [last, numB (n : Int), b]))).toArray (0, 0) _ rfl (HO5.out.setRow_ _) Try.underlying41 rfl (by rw [List.size_toArray]; exact HDF.out.2.1)) rfl ?_
  exact ⟨rfl, Fr.setRow hS5 (.inr HS1.out) _⟩
end Go.Proofs.Ytmmjihkcofgmmaa

/- The log: append of zeros, filled. -/
namespace Go.Proofs.Ytmmjihkcofgmmaa
open Go.RowKit
set_option linter.unusedVariables false

theorem zeroCells_u8 (k : Nat) : Builtin.zeroCells #[.int .u8 0] k = (zs k).toArray := by
  apply Array.ext
  · simp [Builtin.zeroCells, zs_length]
  · intro i h1 h2
    simp only [Builtin.zeroCells, Array.getElem_map, Array.getElem_range, List.getElem_toArray, zs_eq, List.getElem_replicate]
    simp [Nat.mod_one, u8v]
/-- zeros, appended to a row of the call's own -/
theorem run_appz (w : World) (base : Nat) (ty : TypeId) (v : Value) (n : Nat) (xs : List Value) (hown : w.ownsRow base 5 1 v n xs) (k : Nat) (hbd : n + k ≤ 1000000000) (hbase : base ≤ w.heap.size) :
    ∃ v' w', (Builtin.append_ #[26, 3] ty #[v, .int .i64 (k : Int)]).run Try.prog w = .ok v' w' ∧ w'.ownsRow base 5 1 v' (n + k) (xs ++ zs k) ∧ w.grownBy w' v.ownBlock ∧ (v'.ownBlock = v.ownBlock ∨ v'.ownBlock = some w.heap.size) := by
  obtain ⟨i, hi, hz, hsz, hby⟩ := info_parts infoU8
  have ht := Try.underlying26
  have htn := Try.underlying3
  have hlen : (xs ++ zs k).length = (n + k) * 1 := by rw [List.length_append, hown.1, zs_length]; omega
  have hcl : (Value.int .u8 0).cells = #[.int .u8 0] := rfl
  have grown : ∀ (old : Nat), old < n + k → ∀ (row : Option Nat),
      (w.drew.alloc (.cells (xs.toArray ++ Builtin.zeroCells (Value.int .u8 0).cells k ++ Builtin.zeroCells (Value.int .u8 0).cells (grownCap w (n + k) old 5 - (n + k))) 5)).ownsRow base 5 1
        (.slice (some ⟨w.heap.size, 0, none⟩) (n + k) (grownCap w (n + k) old 5)) (n + k) (xs ++ zs k) ∧
      w.grownBy (w.drew.alloc (.cells (xs.toArray ++ Builtin.zeroCells (Value.int .u8 0).cells k ++ Builtin.zeroCells (Value.int .u8 0).cells (grownCap w (n + k) old 5 - (n + k))) 5)) row := by
    intro old ho row
    have hge := grownCap_ge w (n + k) old 5
    have hcm : grownCap w (n + k) old 5 ≤ maxLen := grownCap_le_maxLen w (n + k) old 5 (by unfold maxLen; omega)
    refine ⟨⟨hlen, .inr ⟨w.heap.size, _, _, rfl, hbase, heap_alloc_new w.drew _, hge, hcm, ?_, ?_⟩⟩, ⟨rfl, rfl, rfl, by simp, fun k hk _ => heap_alloc_old w.drew _ hk⟩⟩
    · rw [hcl, zeroCells_u8, zeroCells_u8]
      simp only [Array.size_append, List.size_toArray, hown.1, zs_length]
      omega
    · rw [hcl, zeroCells_u8, zeroCells_u8]
      simp only [Array.toList_append, ← hlen]
      exact List.take_left
  have grow : ∀ (A : Option Addr) (cap : Nat), cap < n + k → 0 < k → (Builtin.firstCells 1 n (.slice A n cap)).run Try.prog w.drew = .ok xs.toArray w.drew →
      ∃ v' w', (Builtin.append_ #[26, 3] ty #[.slice A n cap, .int .i64 (k : Int)]).run Try.prog w = .ok v' w' ∧ w'.ownsRow base 5 1 v' (n + k) (xs ++ zs k) ∧ w.grownBy w' (Value.slice A n cap).ownBlock ∧ (v'.ownBlock = (Value.slice A n cap).ownBlock ∨ v'.ownBlock = some w.heap.size) := by
    intro A cap hcap hk hf
    have hr := Lib.run_append_grow_zeros (P := Try.prog) w 26 3 ty 5 i (.int .u8 0) .i64 .i64 ht htn hi hz A n cap xs (by rw [hsz]; exact hf) k hk (by omega) hcap (by omega) (by rw [hby]; omega) (growslice_fits hcap (by rw [hby]; omega))
    have hgr := grown cap hcap (Value.slice A n cap).ownBlock
    exact ⟨_, _, hr, hgr.1, hgr.2, .inr rfl⟩
  rcases hown.2 with ⟨rfl, rfl⟩ | ⟨g, cap, cur, rfl, hbg, hg, hnc, hcm, hcs, htake⟩
  · have hx : xs = [] := List.eq_nil_of_length_eq_zero (by simpa using hown.1)
    subst hx
    by_cases hk : k = 0
    · subst hk
      refine ⟨.slice none 0 0, w, ?_, World.ownsRow_nil w base _ 1, ⟨rfl, rfl, rfl, Nat.le_refl _, fun _ _ _ => rfl⟩, .inl rfl⟩
      simp [Builtin.append_, run_underlying ht, run_underlying htn, sizeOf, typeInfo, hi, asInt, asIntOf, IntKind.wrap_i64]
    · exact grow none 0 (by omega) (by omega) (by simp [Builtin.firstCells])
  · by_cases hroom : n + k ≤ cap
    · have hst := run_storeCells_at (P := Try.prog) g n 5 (zs k) 0 cur w hg (by rw [zs_length, hcs]; omega) (zs_one k)
      rw [zs_length, Nat.add_zero] at hst
      have hw : IntKind.i64.wrap (k : Int) = k := by rw [IntKind.wrap_i64]; omega
      have hneg : ¬ ((k : Int) < 0) := by omega
      have h48i : ¬ (281474976710656 < (k : Int)) := by omega
      have hadd : (⟨g, 0, none⟩ : Addr).add n = ⟨g, n, none⟩ := by rw [addr_add0, Nat.zero_add]
      refine ⟨.slice (some ⟨g, 0, none⟩) (n + k) cap, w.setRow g (cur.toList.take n ++ zs k ++ cur.toList.drop (n + k)).toArray, ?_, ⟨hlen, .inr ⟨g, cap, _, rfl, hbg, setRow_heap w g cur _ 5 _ hg, hroom, hcm, ?_, ?_⟩⟩, ⟨rfl, rfl, rfl, by simp, fun k' _ hk => setRow_other w g k' _ (fun e => hk (by simp [Value.ownBlock, e]))⟩, .inl rfl⟩
      · by_cases hk : k = 0
        · subst hk
          simp [Builtin.append_, run_underlying ht, run_underlying htn, sizeOf, typeInfo, hi, asInt, asIntOf, IntKind.wrap_i64, hnc, storeCells, zs, u8s]
          exact (setRow_self w g cur _ (0, 0) hg).symm
        · simp [Builtin.append_, run_underlying ht, run_underlying htn, sizeOf, typeInfo, zeroValue, hi, hz, hsz, hby, asInt, asIntOf, hw, hneg, h48i, hroom, hk, hcl, zeroCells_u8, hadd, hst]
      · simp only [List.size_toArray, List.length_append, List.length_take, List.length_drop, Array.length_toList, zs_length, hcs]
        omega
      · rw [List.append_assoc, ← List.append_assoc, show (n + k) * 1 = (cur.toList.take n ++ zs k).length by rw [List.length_append, List.length_take, zs_length, Array.length_toList, hcs]; omega, List.take_left]
        rw [← htake, Nat.mul_one]
    · refine grow (some ⟨g, 0, none⟩) cap (by omega) (by omega) ?_
      exact run_firstCells_some w.drew 1 n ⟨g, 0, none⟩ n cap xs hown.1 (by simpa using hown.cells (g := g) rfl)
theorem wpList_appz {ops : Array Oper} {rest : List Oper} {o : Oper} {a : Act} {w : World} {Q : Exit → Act → World → Prop} (hgd : o.guard = none) (s x : Operand) (d : Tmp) (hd : o.dst = some d)
    (ho : o.op = .call { callee := .builtin .append, args := #[s, x], argTypes := #[26, 3] })
    (base : Nat) (v : Value) (n : Nat) (xs : List Value) (hs : a.eval s = v) (hown : w.ownsRow base 5 1 v n xs) (k : Nat) (hx : a.eval x = .int .i64 (k : Int)) (hbd : n + k ≤ 1000000000) (hbase : base ≤ w.heap.size)
    (h : ∀ v' w', w'.ownsRow base 5 1 v' (n + k) (xs ++ zs k) → Fr v.ownBlock.toList w w' → wpList Try.prog ops Q rest (a.put (some d) v') w') : wpList Try.prog ops Q (o :: rest) a w := by
  obtain ⟨v', w', hrun, h2, h3, h4⟩ := run_appz w base o.type v n xs hown k hbd hbase
  refine wpList_val hgd v' w' ?_ (by rw [hd]; exact h v' w' h2 ((Fr.refl _ _).grown h3 (fun k hk => .inl (by simp [hk]))))
  unfold execOp
  simp only [ho, resolve, invoke, builtin, Sem.run_bind, Sem.run_pure, Result.andThen_ok, List.map_toArray, List.map_cons, List.map_nil, hs, hx, hrun]
/-- bytes and zeros behind them -/
def filledB (b : List UInt8) (n : Nat) : List UInt8 := b ++ List.replicate (n - b.length) 0
theorem filledB_length (b : List UInt8) (n : Nat) (h : b.length ≤ n) : (filledB b n).length = n := by simp [filledB]; omega
theorem filled_calls (w : World) (A : Option Addr) (m c : Nat) (b : List UInt8) (hm : b.length = m) (hA : Rd w A b) (n : Nat) (hn : m ≤ n) (hb : n ≤ 1000000) :
    Calls Try.prog 54 #[.slice A m c, .int .i64 (n : Int)] w (OwnBytes w (filledB b n)) := by
  have HC := Lib.hid (clone_n w A m c b hm hA (by omega))
  have HE := Lib.hid (show filledB b n = b ++ List.replicate (n - m) 0 by rw [← hm]; rfl)
  have HM := Lib.hid hm
  obtain ⟨k, hk⟩ : ∃ k : Nat, (n : Int) - (m : Int) = (k : Int) := ⟨n - m, by omega⟩
  have HK := Lib.hid hk
  have hI : (0 : Int) ≤ (m : Int) ∧ (m : Int) ≤ (n : Int) ∧ (n : Int) ≤ 1000000 := by omega
  have HB := Lib.hid (show m + k ≤ 1000000000 by omega)
  have HKN := Lib.hid (show k = n - m by omega)
  clear hm hA hn hb hk
  go_enter Try.func54, Try.ntmps54
  go_wp2_with (first
    | (go_at_call 35; (refine HC.out.mono ?_); rintro e w1 ⟨A1, c1, rfl, ho1, f1⟩; have HO := Lib.hid ho1; have F1 := Lib.hid f1; clear ho1 f1)
    | (at_builtin; (refine wpList_appz rfl (.tmp 6) (.tmp 10) 11 rfl rfl w.heap.size (.slice A1 b.length c1) _ _ rfl HO.out k (congrArg (Value.int .i64) HK.out) (by rw [HM.out]; exact HB.out) F1.out.size ?_; intro v2 w2 ho2 f2; have HO2 := Lib.hid ho2; have F2 := Lib.hid (F1.out.trans' f2 (fun y hy => .inr (HO.out.lt y (by simpa using hy)).1)); clear ho2 f2)))
  go_ret
  rw [HE.out]
  have := HO2.out
  rw [show u8s b ++ zs k = u8s (b ++ List.replicate (n - m) 0) by rw [HKN.out]; simp [zs, u8s]] at this
  exact OwnBytes.mk' this F2.out
end Go.Proofs.Ytmmjihkcofgmmaa

/- slices.Grow of nothing, slices.Concat. -/
namespace Go.Proofs.Ytmmjihkcofgmmaa
open Go.RowKit
set_option linter.unusedVariables false

/-- an empty row of the call's own -/
def OwnE (w : World) (e : Ending) (w' : World) : Prop := ∃ v, e = .returned v ∧ w'.ownsRow w.heap.size 5 1 v 0 [] ∧ Fr [] w w'
theorem own_zero {w : World} {base : Nat} {A : Option Addr} {n c : Nat} {xs : List Value} (h : w.ownsRow base 5 1 (.slice A n c) n xs) (hn : 0 < n) : ∃ g, A = some ⟨g, 0, none⟩ ∧ w.ownsRow base 5 1 (.slice A 0 c) 0 [] := by
  rcases h.2 with ⟨h1, h2⟩ | ⟨g, cap, cur, h1, h2, h3, h4, h5, h6, h7⟩
  · omega
  · injection h1 with h1 _ h8
    subst h1 h8
    exact ⟨g, rfl, by simp, .inr ⟨g, c, cur, rfl, h2, h3, Nat.zero_le _, h5, h6, by simp⟩⟩
theorem grow_nil (w : World) (n : Nat) (hb : n ≤ 100000000) : Calls Try.prog 70 #[.slice none 0 0, .int .i64 (n : Int)] w (OwnE w) := by
  by_cases h0 : n = 0
  · subst h0
    clear hb
    go_enter Try.func70, Try.ntmps70
    go_wp2
    go_ret
    exact ⟨_, rfl, World.ownsRow_nil _ _ _ _, Fr.refl _ _⟩
  · have hI : (1 : Int) ≤ (n : Int) ∧ (n : Int) ≤ 100000000 := by omega
    have HB := Lib.hid (show 0 + n ≤ 1000000000 by omega); have HN := Lib.hid (show 0 < 0 + n by omega)
    clear h0 hb
    go_enter Try.func70, Try.ntmps70
    go_wp2_with (first
      | (at_builtin; refine wpList_appz rfl (.tmp 20) (.tmp 21) 22 rfl rfl w.heap.size (.slice none 0 0) 0 [] rfl (World.ownsRow_nil _ _ _ _) n rfl HB.out (Nat.le_refl _) ?_; intro v2 w2 ho2 f2; obtain ⟨A2, c2, rfl⟩ := own_slice ho2; obtain ⟨g2, rfl, ho3⟩ := own_zero ho2 HN.out; have HO3 := Lib.hid ho3; have F2 := Lib.hid (show Fr [] w w2 from f2); clear ho2 ho3 f2))
    go_ret
    exact ⟨_, rfl, HO3.out, F2.out⟩
theorem take_flat (ts : List (List UInt8)) (k : Nat) (t : List UInt8) (ht : ts[k]? = some t) : (ts.take (k + 1)).flatten = (ts.take k).flatten ++ t := by
  rw [List.take_add_one, ht]; simp
theorem take_flat_le (ts : List (List UInt8)) (k : Nat) : (ts.take k).flatten.length ≤ ts.flatten.length := by
  conv => rhs; rw [← List.take_append_drop k ts, List.flatten_append, List.length_append]
  omega
set_option maxHeartbeats 1000000 in
theorem concat_calls (w : World) (TA : Option Addr) (n c : Nat) (ts : List (List UInt8)) (hn : ts.length = n) (hT : TxIn w TA ts) (hbd : ts.flatten.length ≤ 10000000) (hnb : n ≤ 100000000) :
    Calls Try.prog 63 #[.slice TA n c] w (OwnBytes w ts.flatten) := by
  have HT := Lib.hid hT; have HN := Lib.hid hn; have HBD := Lib.hid hbd
  have hnI : (n : Int) ≤ 100000000 := by omega
  clear hT hn hbd
  go_enter Try.func63, Try.ntmps63
  go_wp2_with fail
  go_loopg [3, 11] n (fun gg v u wr => ∃ k : Nat, k ≤ n ∧ gg = n - k ∧ v = .int .i64 (((ts.take k).flatten.length : Nat) : Int) ∧ u = .int .i64 (k : Int) ∧ w = wr)
  case atStart => exact ⟨0, by omega, by omega, rfl, rfl, rfl⟩
  case round =>
    obtain ⟨k, hk, rfl, rfl, rfl, rfl⟩ := hrel
    by_cases hlt : k < n
    · obtain ⟨t, ht⟩ : ∃ t, ts[k]? = some t := ⟨ts[k]'(by have := HN.out; omega), by simp⟩
      obtain ⟨b, off, A, ct, hA, hbw, hc, hr⟩ := HT.out k t ht
      subst hA
      have hle := take_flat_le ts (k + 1)
      rw [take_flat ts k t ht, List.length_append] at hle
      obtain ⟨L, hL⟩ : ∃ L, (ts.take k).flatten.length = L := ⟨_, rfl⟩
      obtain ⟨m, hm⟩ : ∃ m, t.length = m := ⟨_, rfl⟩
      have HSTEP := Lib.hid (show (ts.take (k + 1)).flatten.length = L + m by rw [take_flat ts k t ht, List.length_append, hL, hm])
      rw [hm] at hc
      rw [hL, hm] at hle
      rw [hL]
      have hix := fun w' => ix_sl0 (P := Try.prog) (b := b) (off := off) (n := n) (c := c) Try.underlying25 size_sl hlt w'
      have hI : (0 : Int) ≤ (L : Int) ∧ (0 : Int) ≤ (m : Int) ∧ (L : Int) + (m : Int) ≤ 10000000 := by have := HBD.out; omega
      have hkI : (0 : Int) ≤ (k : Int) ∧ (k : Int) < (n : Int) := by omega
      clear hle hL hm hr ht hbw
      go_wp2_with fail
      go_roundg (n - (k + 1))
      case measure => omega
      case rel => exact ⟨k + 1, by omega, rfl, by rw [HSTEP.out]; go_num, by go_num, rfl⟩
    · obtain rfl : k = n := by omega
      have e : ts.take k = ts := List.take_of_length_le (by have := HN.out; omega)
      rw [e]
      clear e hlt hk
      obtain ⟨L, hL⟩ : ∃ L, ts.flatten.length = L := ⟨_, rfl⟩
      rw [hL]
      have HG := Lib.hid (grow_nil w L (by have := HBD.out; omega))
      have HL := Lib.hid hL
      have hkI : (0 : Int) ≤ (k : Int) ∧ (0 : Int) ≤ (L : Int) := by omega
      clear hL
      go_wp2_with (first
        | (go_at_call 70; (refine HG.out.mono ?_); rintro e w1 ⟨v1, rfl, ho1, f1⟩; have HO1 := Lib.hid ho1; have F1 := Lib.hid f1; clear ho1 f1))
      go_loopg [6, 27] k (fun gg v u wr => ∃ j : Nat, j ≤ k ∧ gg = k - j ∧ u = .int .i64 (j : Int) ∧ wr.ownsRow w.heap.size 5 1 v (ts.take j).flatten.length (u8s (ts.take j).flatten) ∧ Fr [] w wr)
      case atStart => exact ⟨0, by omega, by omega, rfl, HO1.out, F1.out⟩
      case round =>
        obtain ⟨j, hj, rfl, rfl, ho, hf⟩ := hrel
        have HO := Lib.hid ho; have HF := Lib.hid hf
        clear ho hf
        by_cases hlt : j < k
        · obtain ⟨t, ht⟩ : ∃ t, ts[j]? = some t := ⟨ts[j]'(by have := HN.out; omega), by simp⟩
          obtain ⟨b, off, A, ct, hA, hbw, hc0, hr⟩ := HT.out j t ht
          subst hA
          have hle := take_flat_le ts (j + 1)
          have HST := Lib.hid (take_flat ts j t ht)
          rw [HST.out, List.length_append] at hle
          obtain ⟨m, hm⟩ : ∃ m, t.length = m := ⟨_, rfl⟩
          have HM := Lib.hid hm
          have HR := Lib.hid (hr.fr HF.out (by simp))
          have HLE := Lib.hid (show (ts.take j).flatten.length + m ≤ 10000000 by have := HBD.out; omega)
          rename World => wr
          have hc : wr.cell? ⟨b, off + j, none⟩ = some (.slice A m ct) := by rw [HF.out.cell (p := ⟨b, off + j, none⟩) hbw (by simp), hc0, hm]
          have hix := fun w' => ix_sl0 (P := Try.prog) (b := b) (off := off) (n := k) (c := c) Try.underlying25 size_sl hlt w'
          have hjI : (0 : Int) ≤ (j : Int) ∧ (j : Int) < (k : Int) := by omega
          clear hle hm hr ht hbw hc0
          go_wp2_with (at_builtin; refine wpList_append rfl (.tmp 31) (.tmp 32) 26 rfl w.heap.size 5 (.int .u8 0) 1 1 Try.underlying26 infoU8 rfl (by decide) _ _ _ rfl HO.out A m ct (u8s t) rfl (by rw [u8s_length, HM.out]; omega) HR.out.srcAll (u8s_one _) (by have := HLE.out; unfold maxLen; omega) (by have := HLE.out; omega) HF.out.size ?_; intro v4 w4 ho4 hb4 hg4 _; have HO4 := Lib.hid ho4; have F4 := Lib.hid (HF.out.thenBelow hb4); clear ho4 hb4 hg4)
          go_roundg (k - (j + 1))
          case measure => omega
          case rel => exact ⟨j + 1, by omega, rfl, by go_num, by rw [HST.out, List.length_append, HM.out]; simpa [u8s] using HO4.out, F4.out⟩
        · obtain rfl : j = k := by omega
          have HE := Lib.hid (show ts.take j = ts from List.take_of_length_le (by have := HN.out; omega))
          go_wp2_with fail
          go_ret
          have ho := HO.out
          rw [HE.out] at ho
          exact OwnBytes.mk' ho HF.out
end Go.Proofs.Ytmmjihkcofgmmaa

/- The log: a record's first sector. -/
namespace Go.Proofs.Ytmmjihkcofgmmaa
open Go.RowKit
set_option linter.unusedVariables false

section
variable {P : Program} {Q : Exit → Act → World → Prop} {ops : Array Oper} {md : Region.Mode}
/-- one of two may come up next -/
theorem sqo_two {w0 : World} {i j : Nat} {o o' : Oper} {fuel : Nat} {listed : Array Bool} {a : Act} {w : World} (hi : ops[i]? = some o) (hg : Region.wanted o (yielded ops a.tmps) = true) (hj : ops[j]? = some o') (hg' : Region.wanted o' (yielded ops a.tmps) = true)
    (hr : Region.ready md ops listed = [i, j])
    (h : Oper.wp P o a w (fun a' w' => OldW w0 w' ∧ wpAnyH P md ops Q (OldW w0) fuel (listed.setIfInBounds i true) a' w') Q)
    (h' : Oper.wp P o' a w (fun a' w' => OldW w0 w' ∧ wpAnyH P md ops Q (OldW w0) fuel (listed.setIfInBounds j true) a' w') Q) : wpAnyH P md ops Q (OldW w0) (fuel + 1) listed a w := by
  refine wpAnyH_all hr (by simp) fun x hx => ?_
  simp only [List.mem_cons, List.not_mem_nil, or_false] at hx
  rcases hx with rfl | rfl
  · unfold wpOp
    rw [hi]
    simp only [hg, if_true]
    exact .inl h
  · unfold wpOp
    rw [hj]
    simp only [hg', if_true]
    exact .inl h'
end
/-- bytes told, to be read -/
def RdOut (w : World) (n : Nat) (l : List UInt8) (e : Ending) (w' : World) : Prop := ∃ A c, e = .returned (.slice A n c) ∧ Rd w' A l ∧ Fr [] w w'
/-- bytes told, in a row of the call's own -/
def OwnRN (w : World) (n : Nat) (l : List UInt8) (e : Ending) (w' : World) : Prop := ∃ A c, e = .returned (.slice A n c) ∧ w'.ownsRow w.heap.size 5 1 (.slice A n c) n (u8s l) ∧ Fr [] w w'
theorem OwnBytes.toN {w w' : World} {n : Nat} {l : List UInt8} {e : Ending} (hn : l.length = n) (h : OwnBytes w l e w') : OwnRN w n l e w' := by
  subst hn
  exact h
theorem OwnBytes.toRd {w w' : World} {n : Nat} {l : List UInt8} {e : Ending} (hn : l.length = n) (h : OwnBytes w l e w') : RdOut w n l e w' := by
  subst hn
  obtain ⟨A, c, h1, h2, h3⟩ := h
  exact ⟨A, c, h1, own_bytes_rd h2, h3⟩
theorem concat_n (w : World) (TA : Option Addr) (n c : Nat) (ts : List (List UInt8)) (m : Nat) (hn : ts.length = n) (hT : TxIn w TA ts) (hm : ts.flatten.length = m) (hbd : m ≤ 10000000) (hnb : n ≤ 100000000) :
    Calls Try.prog 63 #[.slice TA n c] w (OwnRN w m ts.flatten) := (concat_calls w TA n c ts hn hT (by omega) hnb).mono fun e w' h => h.toN hm
theorem tx4 {w : World} {B : Nat} {t : TypeId} {A1 A2 A3 A4 : Option Addr} {n1 n2 n3 n4 c1 c2 c3 c4 : Nat} {t1 t2 t3 t4 : List UInt8} (h : Blk w B t #[.slice A1 n1 c1, .slice A2 n2 c2, .slice A3 n3 c3, .slice A4 n4 c4]) (l1 : t1.length = n1) (r1 : Rd w A1 t1) (l2 : t2.length = n2) (r2 : Rd w A2 t2) (l3 : t3.length = n3) (r3 : Rd w A3 t3) (l4 : t4.length = n4) (r4 : Rd w A4 t4) :
    TxIn w (some ⟨B, 0, none⟩) [t1, t2, t3, t4] := fun i t ht => by
  subst l1 l2 l3 l4
  match i with
  | 0 => simp at ht; subst ht; exact ⟨B, 0, A1, c1, rfl, h.lt, by rw [h.cell]; rfl, r1⟩
  | 1 => simp at ht; subst ht; exact ⟨B, 0, A2, c2, rfl, h.lt, by rw [h.cell]; rfl, r2⟩
  | 2 => simp at ht; subst ht; exact ⟨B, 0, A3, c3, rfl, h.lt, by rw [h.cell]; rfl, r3⟩
  | 3 => simp at ht; subst ht; exact ⟨B, 0, A4, c4, rfl, h.lt, by rw [h.cell]; rfl, r4⟩
  | i + 4 => simp at ht
/-- a record's first sector -/
def headR (n m : Nat) : List UInt8 := (([] ++ [87]) ++ countB m) ++ numB (n : Int)
theorem headR_length (n m : Nat) : (headR n m).length = 12 := by simp [headR, countB, numB_length]
def firstB (n : Nat) (b sum : List UInt8) : List UInt8 := ([headR n b.length, filledB (b.take 19) 19, sum, [1]] : List (List UInt8)).flatten
theorem firstB_length (n : Nat) (b sum : List UInt8) (h : sum.length = 32) : (firstB n b sum).length = 64 := by
  simp [firstB, headR_length, filledB_length (b.take 19) 19 (by rw [List.length_take]; omega), h]
theorem Rd.take' {w : World} {A : Option Addr} {b : List UInt8} (h : Rd w A b) (k : Nat) : Rd w A (b.take k) := by
  intro hl
  rw [List.length_take] at hl
  obtain ⟨g, off, hA, hc⟩ := h (by omega)
  exact ⟨g, off, hA, fun j x hx => hc j x (by rw [List.getElem?_take] at hx; split at hx <;> simp_all)⟩
set_option maxHeartbeats 4000000 in
set_option maxRecDepth 100000 in
theorem first_calls (w : World) (sum : List UInt8) (hl : sum.length = 32) (n : Nat) (hn : n ≤ 1000000000) (A : Option Addr) (m c : Nat) (b : List UInt8) (hm : b.length = m) (hA : Rd w A b) (hmb : m ≤ 1000000) (hmc : m ≤ c) :
    Calls Try.prog 50 #[.int .i64 (n : Int), .slice A m c, .agg (u8s sum).toArray] w (OwnRN w 64 (firstB n b sum)) := by
  obtain ⟨w1, hw1⟩ : ∃ W, w.alloc (.cells (u8s sum).toArray 41) = W := ⟨_, rfl⟩
  obtain ⟨w2, hw2⟩ : ∃ W, w1.alloc (.cells #[.slice none 0 0, .int .i64 0] 102) = W := ⟨_, rfl⟩
  have f1 : Fr [] w w1 := hw1 ▸ (Fr.refl [] w).alloc _
  have f2 : Fr [] w1 w2 := hw2 ▸ (Fr.refl [] w1).alloc _
  have hb1 : Blk w1 w.heap.size 41 (u8s sum).toArray := hw1 ▸ Blk.new w _ _
  have HB1' := Lib.hid hb1
  have F1 := Lib.hid f1; have F2 := Lib.hid f2
  have HNE := Lib.hid (show w.heap.size < w1.heap.size from hb1.lt)
  have HWR := Lib.hid (byte_calls w2 w1.heap.size [] [] 0 (hw2 ▸ isW_new w1) 87 87 rfl (by simp))
  obtain ⟨k, hk⟩ : ∃ k, min m 19 = k := ⟨_, rfl⟩
  have hI : (0 : Int) ≤ (m : Int) ∧ (m : Int) ≤ 1000000 ∧ (0 : Int) ≤ (n : Int) ∧ (n : Int) ≤ 1000000000 ∧ (m : Int) ≤ (c : Int) := by omega
  have hkI : (0 : Int) ≤ (k : Int) ∧ (k : Int) ≤ 19 ∧ (k : Int) ≤ (m : Int) ∧ ((m : Int) ≤ 19 → (k : Int) = (m : Int)) ∧ (19 < (m : Int) → (k : Int) = 19) := by omega
  have HMB := Lib.hid hmb; have HNB := Lib.hid hn
  obtain ⟨fb, hfb⟩ : ∃ x, filledB (b.take 19) 19 = x := ⟨_, rfl⟩
  obtain ⟨bs, hbs⟩ : ∃ x, headR n m = x := ⟨_, rfl⟩
  have HFB := Lib.hid (show fb.length = 19 from hfb ▸ filledB_length (b.take 19) 19 (by rw [List.length_take]; omega)); have HBS := Lib.hid (show bs.length = 12 from hbs ▸ headR_length n m); have HSL := Lib.hid hl
  have HL64 := Lib.hid (show ([bs, fb, sum, [1]] : List (List UInt8)).flatten.length = 64 by simp [HFB.out, HBS.out, hl])
  have HFI := Lib.hid (show firstB n b sum = ([bs, fb, sum, [1]] : List (List UInt8)).flatten by rw [← hfb, ← hbs, ← hm]; rfl)
  have HFL0 := Lib.hid (fun W (h : Fr [] w W) => (filled_calls W A k c (b.take 19) (by rw [List.length_take]; omega) ((hA.fr h (by simp)).take' 19) 19 (by omega) (by omega)).mono fun e w' h => (hfb ▸ OwnBytes.toRd (filledB_length (b.take 19) 19 (by rw [List.length_take]; omega)) h : RdOut W 19 fb e w'))
  have HBS2 := Lib.hid hbs
  rw [HFI.out]
  clear hb1 f1 f2 hn hm hA hmb hmc hl hk hfb hbs
  go_enter Try.func50, Try.ntmps50
  go_wp2_with (first
    | (refine box_agg rfl 41 (.tmp 2) rfl (u8s sum).toArray rfl ?_; rw [hw1])
    | (refine box_agg rfl 102 (.tmp 8) rfl #[.slice none 0 0, .int .i64 0] rfl ?_; rw [hw2])
    | (go_at_call 60; (refine HWR.out.mono ?_); rintro e w3 ⟨rfl, ob3, hw3, hob3, f3⟩; have HW3 := Lib.hid (count_yes w3 w1.heap.size ob3 _ 0 hw3 m (by have := HMB.out; omega) (by simp)); have HO3 := Lib.hid hob3; have F3 := Lib.hid f3; clear hob3 f3 hw3)
    | (go_at_call 61; (refine HW3.out.mono ?_); rintro e w4 ⟨rfl, ob4, hw4, hob4, f4⟩; have HW4 := Lib.hid (num_calls w4 w1.heap.size ob4 _ 0 hw4 (n : Int) (by omega) (by have := HNB.out; omega) (by simp [countB])); have HO4 := Lib.hid hob4; have F4 := Lib.hid f4; clear hob4 f4 hw4)
    | (go_at_call 62; (refine HW4.out.mono ?_); rintro e w5 ⟨rfl, ob5, hw5, hob5, f5⟩; have HW5 := Lib.hid hw5; have HO5 := Lib.hid hob5; have F5x := Lib.hid f5; clear hob5 f5 hw5))
  have g13 : Fr [] w1 w3 := F2.out.trans' F3.out (fun y hy => by simp only [List.mem_singleton] at hy; exact .inr (by omega))
  have g14 : Fr [] w1 w4 := g13.trans' F4.out (fun y hy => by
    rcases List.mem_cons.1 hy with rfl | hy
    · exact .inr (Nat.le_refl _)
    · rcases HO3.out y hy with h | h
      · simp at h
      · exact .inr (Nat.le_trans F2.out.size h))
  have g15 : Fr [] w1 w5 := g14.trans' F5x.out (fun y hy => by
    rcases List.mem_cons.1 hy with rfl | hy
    · exact .inr (Nat.le_refl _)
    · rcases HO4.out y hy with h | h
      · rcases HO3.out y h with h | h
        · simp at h
        · exact .inr (Nat.le_trans F2.out.size h)
      · exact .inr (Nat.le_trans g13.size h))
  have F5 := Lib.hid (F1.out.trans g15)
  have HSB := Lib.hid (show Blk w5 w.heap.size 41 (u8s sum).toArray from HB1'.out.fr g15 (by simp))
  have HFL := Lib.hid (fun W (h : OldW w5 W) => HFL0.out W (F5.out.trans h))
  have HB := Lib.hid (fun W (h : OldW w5 W) => (bytes_ok W w1.heap.size ob5 _ (HW5.out.fr h (by simp) (by simp)) 12 (headR_length n m) (by omega)).mono fun e w' ⟨A, c, h1, _, h2, _, _, h3⟩ => (⟨A, c, h1, HBS2.out ▸ h2, h3⟩ : RdOut W 12 bs e w'))
  clear g13 g14 g15
  have hS0 : OldW w5 w5.drew := (Fr.refl [] w5).drew
  refine sqo_begin (w0 := w5) (by kernel_rfl) ?_
  refine sqo_take (i := 0) (v := (.pointer (some ⟨w1.heap.size, 0, none⟩))) (d := 19) rfl (by kernel_rfl) (by kernel_rfl) (by kernel_rfl) (by kernel_rfl) (by kernel_rfl) (fun _ _ _ h => h) ?_ (by assumption) ?_
  · intro w9 h9; kernel_rfl
  try simp only [Act.put, List.setIfInBounds_toArray, List.set_cons_zero, List.set_cons_succ]
  refine sqo_take (i := 2) (v := (.slice A m c)) (d := 21) rfl (by kernel_rfl) (by kernel_rfl) (by kernel_rfl) (by kernel_rfl) (by kernel_rfl) (fun _ _ _ h => h) ?_ (by assumption) ?_
  · intro w9 h9; kernel_rfl
  try simp only [Act.put, List.setIfInBounds_toArray, List.set_cons_zero, List.set_cons_succ]
  refine sqo_take (i := 3) (v := (.slice A m c)) (d := 22) rfl (by kernel_rfl) (by kernel_rfl) (by kernel_rfl) (by kernel_rfl) (by kernel_rfl) (fun _ _ _ h => h) ?_ (by assumption) ?_
  · intro w9 h9; kernel_rfl
  try simp only [Act.put, List.setIfInBounds_toArray, List.set_cons_zero, List.set_cons_succ]
  refine sqo_take (i := 4) (v := (.int .i64 (m : Int))) (d := 23) rfl (by kernel_rfl) (by kernel_rfl) (by kernel_rfl) (by kernel_rfl) (by kernel_rfl) (fun _ _ _ h => h) ?_ (by assumption) ?_
  · intro w9 h9; kernel_rfl
  try simp only [Act.put, List.setIfInBounds_toArray, List.set_cons_zero, List.set_cons_succ]
  refine sqo_take (i := 5) (v := (.int .i64 (k : Int))) (d := 24) rfl (by kernel_rfl) (by kernel_rfl) (by kernel_rfl) (by kernel_rfl) (by kernel_rfl) (fun _ _ _ h => h) ?_ (by assumption) ?_
  · intro w9 h9; go_simp; omega
  try simp only [Act.put, List.setIfInBounds_toArray, List.set_cons_zero, List.set_cons_succ]
  refine sqo_take (i := 6) (v := (.slice A k c)) (d := 25) rfl (by kernel_rfl) (by kernel_rfl) (by kernel_rfl) (by kernel_rfl) (by kernel_rfl) (fun _ _ _ h => h) ?_ (by assumption) ?_
  · intro w9 h9; go_simp; omega
  try simp only [Act.put, List.setIfInBounds_toArray, List.set_cons_zero, List.set_cons_succ]
  refine sqo_take (i := 8) (v := (.slice (some ⟨w.heap.size, 0, none⟩) 32 32)) (d := 27) rfl (by kernel_rfl) (by kernel_rfl) (by kernel_rfl) (by kernel_rfl) (by kernel_rfl) (fun _ _ _ h => h) ?_ (by assumption) ?_
  · intro w9 h9; kernel_rfl
  try simp only [Act.put, List.setIfInBounds_toArray, List.set_cons_zero, List.set_cons_succ]
  refine sqo_two (i := 1) (j := 9) rfl (by kernel_rfl) rfl (by kernel_rfl) (by kernel_rfl) ?_ ?_
  · have hr1 := fun (a₀ : Act) (o₀ : Oper) (K₀ : Act → World → Prop) (Q₀ : Exit → Act → World → Prop) => @sq_call Try.prog Q₀ a₀ o₀ w5.drew K₀ (RdOut w5.drew 12 bs) 64 #[.pointer (some ⟨w1.heap.size, 0, none⟩)] 20
    refine hr1 _ _ _ _ ?_ ?_ ?_ ?_
    · kernel_rfl
    · kernel_rfl
    · exact (HB.out w5.drew hS0)
    rintro e wa1 ⟨A20, c20, rfl, hr20, f9⟩
    have R20_1 := Lib.hid hr20
    have hS1 := OldW.step hS0 f9
    clear hr20 f9
    refine ⟨_, rfl, hS1, ?_⟩
    clear hr1
    try simp only [Act.put, List.setIfInBounds_toArray, List.set_cons_zero, List.set_cons_succ]
    refine sqo_two (i := 7) (j := 9) rfl (by kernel_rfl) rfl (by kernel_rfl) (by kernel_rfl) ?_ ?_
    · have hr7 := fun (a₀ : Act) (o₀ : Oper) (K₀ : Act → World → Prop) (Q₀ : Exit → Act → World → Prop) => @sq_call Try.prog Q₀ a₀ o₀ wa1 K₀ (RdOut wa1 19 fb) 54 #[.slice A k c, .int .i64 ((19 : Nat) : Int)] 26
      refine hr7 _ _ _ _ ?_ ?_ ?_ ?_
      · kernel_rfl
      · kernel_rfl
      · exact (HFL.out wa1 hS1)
      rintro e wa2 ⟨A26, c26, rfl, hr26, f9⟩
      have R20_2 := Lib.hid (R20_1.out.fr f9 (by simp))
      have R26_2 := Lib.hid hr26
      have hS2 := OldW.step hS1 f9
      clear hr26 f9
      refine ⟨_, rfl, hS2, ?_⟩
      clear hr7
      try simp only [Act.put, List.setIfInBounds_toArray, List.set_cons_zero, List.set_cons_succ]
      refine sqo_only (i := 9) rfl (by kernel_rfl) (by kernel_rfl) ?_
      have hr9 := fun (a₀ : Act) (o₀ : Oper) (K₀ : Act → World → Prop) (Q₀ : Exit → Act → World → Prop) => @sq_val Try.prog Q₀ a₀ o₀ wa2 K₀ (.slice (some ⟨wa2.heap.size, 0, none⟩) 1 1) (wa2.alloc (.cells #[.int .u8 1] 5)) 28
      refine hr9 _ _ _ _ ?_ ?_ ?_
      · kernel_rfl
      · kernel_rfl
      clear hr9
      refine ⟨(OldW.step hS2 ((Fr.refl [] wa2).alloc _)), ?_⟩
      try simp only [Act.put, List.setIfInBounds_toArray, List.set_cons_zero, List.set_cons_succ]
      obtain ⟨B28, hB28⟩ : ∃ B, wa2.heap.size = B := ⟨_, rfl⟩
      obtain ⟨wa3, hw3⟩ : ∃ W, wa2.alloc (.cells #[.int .u8 1] 5) = W := ⟨_, rfl⟩
      rw [hw3, hB28]
      have f9 : Fr [] wa2 wa3 := hw3 ▸ (Fr.refl [] wa2).alloc _
      have R28_3 := Lib.hid (show Rd wa3 (some ⟨B28, 0, none⟩) [1] from hB28 ▸ hw3 ▸ rd_row' (x := [1]) (Blk.new wa2 _ _))
      have R20_3 := Lib.hid (R20_2.out.fr f9 (by simp))
      have R26_3 := Lib.hid (R26_2.out.fr f9 (by simp))
      have hS3 := OldW.step hS2 f9
      clear f9 hw3 hB28
      refine sqo_only (i := 10) rfl (by kernel_rfl) (by kernel_rfl) ?_
      have hr10 := fun (a₀ : Act) (o₀ : Oper) (K₀ : Act → World → Prop) (Q₀ : Exit → Act → World → Prop) => @sq_val Try.prog Q₀ a₀ o₀ wa3 K₀ (.slice (some ⟨wa3.heap.size, 0, none⟩) 4 4) (wa3.alloc (.cells #[.slice A20 12 c20, .slice A26 19 c26, .slice (some ⟨w.heap.size, 0, none⟩) 32 32, .slice (some ⟨B28, 0, none⟩) 1 1] 26)) 29
      refine hr10 _ _ _ _ ?_ ?_ ?_
      · kernel_rfl
      · kernel_rfl
      clear hr10
      refine ⟨(OldW.step hS3 ((Fr.refl [] wa3).alloc _)), ?_⟩
      try simp only [Act.put, List.setIfInBounds_toArray, List.set_cons_zero, List.set_cons_succ]
      obtain ⟨wa4, hw4⟩ : ∃ W, wa3.alloc (.cells #[.slice A20 12 c20, .slice A26 19 c26, .slice (some ⟨w.heap.size, 0, none⟩) 32 32, .slice (some ⟨B28, 0, none⟩) 1 1] 26) = W := ⟨_, rfl⟩
      rw [hw4]
      have f9 : Fr [] wa3 wa4 := hw4 ▸ (Fr.refl [] wa3).alloc _
      have hb9 : Blk wa4 wa3.heap.size 26 #[.slice A20 12 c20, .slice A26 19 c26, .slice (some ⟨w.heap.size, 0, none⟩) 32 32, .slice (some ⟨B28, 0, none⟩) 1 1] := hw4 ▸ Blk.new wa3 _ _
      have R20_4 := Lib.hid (R20_3.out.fr f9 (by simp))
      have R26_4 := Lib.hid (R26_3.out.fr f9 (by simp))
      have R28_4 := Lib.hid (R28_3.out.fr f9 (by simp))
      have HSM := Lib.hid (rd_row' (HSB.out.fr (OldW.step hS3 f9) (by simp)))
      have HTX := Lib.hid (show TxIn wa4 (some ⟨wa3.heap.size, 0, none⟩) [bs, fb, sum, [1]] from tx4 hb9 HBS.out R20_4.out HFB.out R26_4.out HSL.out HSM.out rfl R28_4.out)
      have hS4 := OldW.step hS3 f9
      clear f9 hw4 hb9
      refine sqo_only (i := 11) rfl (by kernel_rfl) (by kernel_rfl) ?_
      have hr11 := fun (a₀ : Act) (o₀ : Oper) (K₀ : Act → World → Prop) (Q₀ : Exit → Act → World → Prop) => @sq_call Try.prog Q₀ a₀ o₀ wa4 K₀ (OwnRN wa4 64 ([bs, fb, sum, [1]] : List (List UInt8)).flatten) 63 #[.slice (some ⟨wa3.heap.size, 0, none⟩) 4 4] 30
      refine hr11 _ _ _ _ ?_ ?_ ?_ ?_
      · kernel_rfl
      · kernel_rfl
      · exact (concat_n wa4 _ 4 4 _ 64 rfl HTX.out HL64.out (by omega) (by omega))
      rintro e wa5 ⟨A30, c30, rfl, ho30, f9⟩
      have HO30 := Lib.hid (own_mono ho30 (Nat.le_trans F5.out.size (OldW.step hS4 (Fr.refl [] _)).size))
      have hS5 := OldW.step hS4 f9
      clear f9 ho30
      refine ⟨_, rfl, hS5, ?_⟩
      clear hr11
      try simp only [Act.put, List.setIfInBounds_toArray, List.set_cons_zero, List.set_cons_succ]
      refine sqo_take (i := 12) (v := (.slice A30 64 c30)) (d := 6) rfl (by kernel_rfl) (by kernel_rfl) (by kernel_rfl) (by kernel_rfl) (by kernel_rfl) (fun _ _ _ h => h) ?_ (by assumption) ?_
      · intro w9 h9; kernel_rfl
      try simp only [Act.put, List.setIfInBounds_toArray, List.set_cons_zero, List.set_cons_succ]
      refine wpAnyH_done (by kernel_rfl) ?_ _
      go_wp2_with fail
      go_ret
      exact ⟨A30, c30, rfl, HO30.out, F5.out.trans hS5⟩
    · have hr9 := fun (a₀ : Act) (o₀ : Oper) (K₀ : Act → World → Prop) (Q₀ : Exit → Act → World → Prop) => @sq_val Try.prog Q₀ a₀ o₀ wa1 K₀ (.slice (some ⟨wa1.heap.size, 0, none⟩) 1 1) (wa1.alloc (.cells #[.int .u8 1] 5)) 28
      refine hr9 _ _ _ _ ?_ ?_ ?_
      · kernel_rfl
      · kernel_rfl
      clear hr9
      refine ⟨(OldW.step hS1 ((Fr.refl [] wa1).alloc _)), ?_⟩
      try simp only [Act.put, List.setIfInBounds_toArray, List.set_cons_zero, List.set_cons_succ]
      obtain ⟨B28, hB28⟩ : ∃ B, wa1.heap.size = B := ⟨_, rfl⟩
      obtain ⟨wa6, hw6⟩ : ∃ W, wa1.alloc (.cells #[.int .u8 1] 5) = W := ⟨_, rfl⟩
      rw [hw6, hB28]
      have f9 : Fr [] wa1 wa6 := hw6 ▸ (Fr.refl [] wa1).alloc _
      have R28_6 := Lib.hid (show Rd wa6 (some ⟨B28, 0, none⟩) [1] from hB28 ▸ hw6 ▸ rd_row' (x := [1]) (Blk.new wa1 _ _))
      have R20_6 := Lib.hid (R20_1.out.fr f9 (by simp))
      have hS6 := OldW.step hS1 f9
      clear f9 hw6 hB28
      refine sqo_only (i := 7) rfl (by kernel_rfl) (by kernel_rfl) ?_
      have hr7 := fun (a₀ : Act) (o₀ : Oper) (K₀ : Act → World → Prop) (Q₀ : Exit → Act → World → Prop) => @sq_call Try.prog Q₀ a₀ o₀ wa6 K₀ (RdOut wa6 19 fb) 54 #[.slice A k c, .int .i64 ((19 : Nat) : Int)] 26
      refine hr7 _ _ _ _ ?_ ?_ ?_ ?_
      · kernel_rfl
      · kernel_rfl
      · exact (HFL.out wa6 hS6)
      rintro e wa7 ⟨A26, c26, rfl, hr26, f9⟩
      have R20_7 := Lib.hid (R20_6.out.fr f9 (by simp))
      have R28_7 := Lib.hid (R28_6.out.fr f9 (by simp))
      have R26_7 := Lib.hid hr26
      have hS7 := OldW.step hS6 f9
      clear hr26 f9
      refine ⟨_, rfl, hS7, ?_⟩
      clear hr7
      try simp only [Act.put, List.setIfInBounds_toArray, List.set_cons_zero, List.set_cons_succ]
      refine sqo_only (i := 10) rfl (by kernel_rfl) (by kernel_rfl) ?_
      have hr10 := fun (a₀ : Act) (o₀ : Oper) (K₀ : Act → World → Prop) (Q₀ : Exit → Act → World → Prop) => @sq_val Try.prog Q₀ a₀ o₀ wa7 K₀ (.slice (some ⟨wa7.heap.size, 0, none⟩) 4 4) (wa7.alloc (.cells #[.slice A20 12 c20, .slice A26 19 c26, .slice (some ⟨w.heap.size, 0, none⟩) 32 32, .slice (some ⟨B28, 0, none⟩) 1 1] 26)) 29
      refine hr10 _ _ _ _ ?_ ?_ ?_
      · kernel_rfl
      · kernel_rfl
      clear hr10
      refine ⟨(OldW.step hS7 ((Fr.refl [] wa7).alloc _)), ?_⟩
      try simp only [Act.put, List.setIfInBounds_toArray, List.set_cons_zero, List.set_cons_succ]
      obtain ⟨wa8, hw8⟩ : ∃ W, wa7.alloc (.cells #[.slice A20 12 c20, .slice A26 19 c26, .slice (some ⟨w.heap.size, 0, none⟩) 32 32, .slice (some ⟨B28, 0, none⟩) 1 1] 26) = W := ⟨_, rfl⟩
      rw [hw8]
      have f9 : Fr [] wa7 wa8 := hw8 ▸ (Fr.refl [] wa7).alloc _
      have hb9 : Blk wa8 wa7.heap.size 26 #[.slice A20 12 c20, .slice A26 19 c26, .slice (some ⟨w.heap.size, 0, none⟩) 32 32, .slice (some ⟨B28, 0, none⟩) 1 1] := hw8 ▸ Blk.new wa7 _ _
      have R20_8 := Lib.hid (R20_7.out.fr f9 (by simp))
      have R28_8 := Lib.hid (R28_7.out.fr f9 (by simp))
      have R26_8 := Lib.hid (R26_7.out.fr f9 (by simp))
      have HSM := Lib.hid (rd_row' (HSB.out.fr (OldW.step hS7 f9) (by simp)))
      have HTX := Lib.hid (show TxIn wa8 (some ⟨wa7.heap.size, 0, none⟩) [bs, fb, sum, [1]] from tx4 hb9 HBS.out R20_8.out HFB.out R26_8.out HSL.out HSM.out rfl R28_8.out)
      have hS8 := OldW.step hS7 f9
      clear f9 hw8 hb9
      refine sqo_only (i := 11) rfl (by kernel_rfl) (by kernel_rfl) ?_
      have hr11 := fun (a₀ : Act) (o₀ : Oper) (K₀ : Act → World → Prop) (Q₀ : Exit → Act → World → Prop) => @sq_call Try.prog Q₀ a₀ o₀ wa8 K₀ (OwnRN wa8 64 ([bs, fb, sum, [1]] : List (List UInt8)).flatten) 63 #[.slice (some ⟨wa7.heap.size, 0, none⟩) 4 4] 30
      refine hr11 _ _ _ _ ?_ ?_ ?_ ?_
      · kernel_rfl
      · kernel_rfl
      · exact (concat_n wa8 _ 4 4 _ 64 rfl HTX.out HL64.out (by omega) (by omega))
      rintro e wa9 ⟨A30, c30, rfl, ho30, f9⟩
      have HO30 := Lib.hid (own_mono ho30 (Nat.le_trans F5.out.size (OldW.step hS8 (Fr.refl [] _)).size))
      have hS9 := OldW.step hS8 f9
      clear f9 ho30
      refine ⟨_, rfl, hS9, ?_⟩
      clear hr11
      try simp only [Act.put, List.setIfInBounds_toArray, List.set_cons_zero, List.set_cons_succ]
      refine sqo_take (i := 12) (v := (.slice A30 64 c30)) (d := 6) rfl (by kernel_rfl) (by kernel_rfl) (by kernel_rfl) (by kernel_rfl) (by kernel_rfl) (fun _ _ _ h => h) ?_ (by assumption) ?_
      · intro w9 h9; kernel_rfl
      try simp only [Act.put, List.setIfInBounds_toArray, List.set_cons_zero, List.set_cons_succ]
      refine wpAnyH_done (by kernel_rfl) ?_ _
      go_wp2_with fail
      go_ret
      exact ⟨A30, c30, rfl, HO30.out, F5.out.trans hS9⟩
  · have hr9 := fun (a₀ : Act) (o₀ : Oper) (K₀ : Act → World → Prop) (Q₀ : Exit → Act → World → Prop) => @sq_val Try.prog Q₀ a₀ o₀ w5.drew K₀ (.slice (some ⟨w5.drew.heap.size, 0, none⟩) 1 1) (w5.drew.alloc (.cells #[.int .u8 1] 5)) 28
    refine hr9 _ _ _ _ ?_ ?_ ?_
    · kernel_rfl
    · kernel_rfl
    clear hr9
    refine ⟨(OldW.step hS0 ((Fr.refl [] w5.drew).alloc _)), ?_⟩
    try simp only [Act.put, List.setIfInBounds_toArray, List.set_cons_zero, List.set_cons_succ]
    obtain ⟨B28, hB28⟩ : ∃ B, w5.drew.heap.size = B := ⟨_, rfl⟩
    obtain ⟨wa10, hw10⟩ : ∃ W, w5.drew.alloc (.cells #[.int .u8 1] 5) = W := ⟨_, rfl⟩
    rw [hw10, hB28]
    have f9 : Fr [] w5.drew wa10 := hw10 ▸ (Fr.refl [] w5.drew).alloc _
    have R28_10 := Lib.hid (show Rd wa10 (some ⟨B28, 0, none⟩) [1] from hB28 ▸ hw10 ▸ rd_row' (x := [1]) (Blk.new w5.drew _ _))
    have hS10 := OldW.step hS0 f9
    clear f9 hw10 hB28
    refine sqo_only (i := 1) rfl (by kernel_rfl) (by kernel_rfl) ?_
    have hr1 := fun (a₀ : Act) (o₀ : Oper) (K₀ : Act → World → Prop) (Q₀ : Exit → Act → World → Prop) => @sq_call Try.prog Q₀ a₀ o₀ wa10 K₀ (RdOut wa10 12 bs) 64 #[.pointer (some ⟨w1.heap.size, 0, none⟩)] 20
    refine hr1 _ _ _ _ ?_ ?_ ?_ ?_
    · kernel_rfl
    · kernel_rfl
    · exact (HB.out wa10 hS10)
    rintro e wa11 ⟨A20, c20, rfl, hr20, f9⟩
    have R28_11 := Lib.hid (R28_10.out.fr f9 (by simp))
    have R20_11 := Lib.hid hr20
    have hS11 := OldW.step hS10 f9
    clear hr20 f9
    refine ⟨_, rfl, hS11, ?_⟩
    clear hr1
    try simp only [Act.put, List.setIfInBounds_toArray, List.set_cons_zero, List.set_cons_succ]
    refine sqo_only (i := 7) rfl (by kernel_rfl) (by kernel_rfl) ?_
    have hr7 := fun (a₀ : Act) (o₀ : Oper) (K₀ : Act → World → Prop) (Q₀ : Exit → Act → World → Prop) => @sq_call Try.prog Q₀ a₀ o₀ wa11 K₀ (RdOut wa11 19 fb) 54 #[.slice A k c, .int .i64 ((19 : Nat) : Int)] 26
    refine hr7 _ _ _ _ ?_ ?_ ?_ ?_
    · kernel_rfl
    · kernel_rfl
    · exact (HFL.out wa11 hS11)
    rintro e wa12 ⟨A26, c26, rfl, hr26, f9⟩
    have R28_12 := Lib.hid (R28_11.out.fr f9 (by simp))
    have R20_12 := Lib.hid (R20_11.out.fr f9 (by simp))
    have R26_12 := Lib.hid hr26
    have hS12 := OldW.step hS11 f9
    clear hr26 f9
    refine ⟨_, rfl, hS12, ?_⟩
    clear hr7
    try simp only [Act.put, List.setIfInBounds_toArray, List.set_cons_zero, List.set_cons_succ]
    refine sqo_only (i := 10) rfl (by kernel_rfl) (by kernel_rfl) ?_
    have hr10 := fun (a₀ : Act) (o₀ : Oper) (K₀ : Act → World → Prop) (Q₀ : Exit → Act → World → Prop) => @sq_val Try.prog Q₀ a₀ o₀ wa12 K₀ (.slice (some ⟨wa12.heap.size, 0, none⟩) 4 4) (wa12.alloc (.cells #[.slice A20 12 c20, .slice A26 19 c26, .slice (some ⟨w.heap.size, 0, none⟩) 32 32, .slice (some ⟨B28, 0, none⟩) 1 1] 26)) 29
    refine hr10 _ _ _ _ ?_ ?_ ?_
    · kernel_rfl
    · kernel_rfl
    clear hr10
    refine ⟨(OldW.step hS12 ((Fr.refl [] wa12).alloc _)), ?_⟩
    try simp only [Act.put, List.setIfInBounds_toArray, List.set_cons_zero, List.set_cons_succ]
    obtain ⟨wa13, hw13⟩ : ∃ W, wa12.alloc (.cells #[.slice A20 12 c20, .slice A26 19 c26, .slice (some ⟨w.heap.size, 0, none⟩) 32 32, .slice (some ⟨B28, 0, none⟩) 1 1] 26) = W := ⟨_, rfl⟩
    rw [hw13]
    have f9 : Fr [] wa12 wa13 := hw13 ▸ (Fr.refl [] wa12).alloc _
    have hb9 : Blk wa13 wa12.heap.size 26 #[.slice A20 12 c20, .slice A26 19 c26, .slice (some ⟨w.heap.size, 0, none⟩) 32 32, .slice (some ⟨B28, 0, none⟩) 1 1] := hw13 ▸ Blk.new wa12 _ _
    have R28_13 := Lib.hid (R28_12.out.fr f9 (by simp))
    have R20_13 := Lib.hid (R20_12.out.fr f9 (by simp))
    have R26_13 := Lib.hid (R26_12.out.fr f9 (by simp))
    have HSM := Lib.hid (rd_row' (HSB.out.fr (OldW.step hS12 f9) (by simp)))
    have HTX := Lib.hid (show TxIn wa13 (some ⟨wa12.heap.size, 0, none⟩) [bs, fb, sum, [1]] from tx4 hb9 HBS.out R20_13.out HFB.out R26_13.out HSL.out HSM.out rfl R28_13.out)
    have hS13 := OldW.step hS12 f9
    clear f9 hw13 hb9
    refine sqo_only (i := 11) rfl (by kernel_rfl) (by kernel_rfl) ?_
    have hr11 := fun (a₀ : Act) (o₀ : Oper) (K₀ : Act → World → Prop) (Q₀ : Exit → Act → World → Prop) => @sq_call Try.prog Q₀ a₀ o₀ wa13 K₀ (OwnRN wa13 64 ([bs, fb, sum, [1]] : List (List UInt8)).flatten) 63 #[.slice (some ⟨wa12.heap.size, 0, none⟩) 4 4] 30
    refine hr11 _ _ _ _ ?_ ?_ ?_ ?_
    · kernel_rfl
    · kernel_rfl
    · exact (concat_n wa13 _ 4 4 _ 64 rfl HTX.out HL64.out (by omega) (by omega))
    rintro e wa14 ⟨A30, c30, rfl, ho30, f9⟩
    have HO30 := Lib.hid (own_mono ho30 (Nat.le_trans F5.out.size (OldW.step hS13 (Fr.refl [] _)).size))
    have hS14 := OldW.step hS13 f9
    clear f9 ho30
    refine ⟨_, rfl, hS14, ?_⟩
    clear hr11
    try simp only [Act.put, List.setIfInBounds_toArray, List.set_cons_zero, List.set_cons_succ]
    refine sqo_take (i := 12) (v := (.slice A30 64 c30)) (d := 6) rfl (by kernel_rfl) (by kernel_rfl) (by kernel_rfl) (by kernel_rfl) (by kernel_rfl) (fun _ _ _ h => h) ?_ (by assumption) ?_
    · intro w9 h9; kernel_rfl
    try simp only [Act.put, List.setIfInBounds_toArray, List.set_cons_zero, List.set_cons_succ]
    refine wpAnyH_done (by kernel_rfl) ?_ _
    go_wp2_with fail
    go_ret
    exact ⟨A30, c30, rfl, HO30.out, F5.out.trans hS14⟩
end Go.Proofs.Ytmmjihkcofgmmaa

/- The document's log: a record's sum. -/
namespace Go.Proofs.Ytmmjihkcofgmmaa
open Go.RowKit
set_option linter.unusedVariables false

set_option maxHeartbeats 1000000 in
theorem rsum08_calls (w : World) (last : List UInt8) (hl : last.length = 32) (n : Nat) (hn : n ≤ 1000000000) (A : Option Addr) (m c : Nat) (b : List UInt8) (hm : b.length = m) (hA : Rd w A b) (hmb : m ≤ 10000000) :
    Calls Try.prog 31 #[.agg (u8s last).toArray, .int .i64 (n : Int), .slice A m c] w (Agg (.agg (u8s (sumR last n b)).toArray) w) := by
  obtain ⟨w1, hw1⟩ : ∃ W, w.alloc (.cells (u8s last).toArray 41) = W := ⟨_, rfl⟩
  obtain ⟨w2, hw2⟩ : ∃ W, w1.alloc (.cells (zs 32).toArray 41) = W := ⟨_, rfl⟩
  have f1 : Fr [] w w1 := hw1 ▸ (Fr.refl [] w).alloc _
  have f2 : Fr [] w1 w2 := hw2 ▸ (Fr.refl [] w1).alloc _
  have hl1 : Blk w1 w.heap.size 41 (u8s last).toArray := hw1 ▸ Blk.new w _ _
  have HL2 := Lib.hid (rd_row' (hl1.fr f2 (by simp))); have HO2 := Lib.hid (show Blk w2 w1.heap.size 41 (zs 32).toArray from hw2 ▸ Blk.new w1 _ _)
  have HLN := Lib.hid (show (u8s last).length = 32 * 1 by simp [hl])
  have F2 := Lib.hid (f1.trans f2); have HS1 := Lib.hid f1.size
  have HN1 := Lib.hid (show -9223372036854775808 ≤ (n : Int) by omega); have HN2 := Lib.hid (show (n : Int) ≤ 9223372036854775807 by omega)
  have HL32 := Lib.hid hl; have HM := Lib.hid hm; have HA := Lib.hid hA
  have hbd : (preB 87 [last, numB (n : Int), b]).length ≤ 100000000 := by simp [preB, eightB_length, numB_length, hl]; omega
  have HBD := Lib.hid hbd
  obtain ⟨pl, hpl⟩ : ∃ x, (preB 87 [last, numB (n : Int), b]).length = x := ⟨_, rfl⟩
  have HPL := Lib.hid hpl; have HPB := Lib.hid (hpl ▸ hbd)
  have HDF := Lib.hid (digF (sumR last n b) (sumR_length _ _ _))
  have HSR := Lib.hid (show shaB (preB 87 [last, numB (n : Int), b]) = sumR last n b from rfl)
  clear f1 f2 hl1 hn hl hm hA hmb hbd hpl
  go_enter Try.func31, Try.ntmps31
  go_wp2_with (first
    | (refine box_agg rfl 41 (.tmp 0) rfl (u8s last).toArray rfl ?_; rw [hw1])
    | (refine wpList_alloc_agg rfl 41 rfl (zs 32).toArray arr32_zero ?_; rw [hw2])
    | (at_builtin; refine wpList_append rfl (.tmp 8) (.tmp 9) 26 rfl w2.heap.size 5 (.int .u8 0) 1 1 Try.underlying26 infoU8 rfl (by decide) (.slice none 0 0) 0 [] rfl (World.ownsRow_nil _ _ _ _) (some ⟨w.heap.size, 0, none⟩) 32 32 (u8s last) rfl HLN.out HL2.out.srcAll (u8s_one _) (by unfold maxLen; omega) (by omega) (Nat.le_refl _) ?_; intro v3 w3 ho3 hb3 hg3 _; have ho3' : w3.ownsRow w2.heap.size 5 1 v3 32 (u8s last) := ho3; have F3 := Lib.hid ((Fr.refl [] w2).thenBelow hb3); obtain ⟨A3, c3, rfl⟩ := own_slice ho3'; have HR3 := Lib.hid (OwnN.rdd ho3'); clear ho3' ho3 hb3 hg3)
    | (go_at_call 41; (refine (rnum_calls w3 (n : Int) HN1.out HN2.out).mono ?_); rintro e w4 ⟨A4, c4, rfl, ho4, f4⟩; have HR4 := Lib.hid (OwnN.rdd ho4); have F4 := Lib.hid ((F2.out.trans F3.out).trans f4); have HR34 := Lib.hid (HR3.out.fr f4 (by simp)); have HO4 := Lib.hid ((HO2.out.fr F3.out (by simp)).fr f4 (by simp)); clear ho4 f4))
  obtain ⟨w5, hw5⟩ : ∃ W, w4.alloc (.cells #[.slice A3 32 c3, .slice A4 8 c4, .slice A m c] 26) = W := ⟨_, rfl⟩
  rw [hw5]
  have f5 : Fr [] w4 w5 := hw5 ▸ (Fr.refl [] w4).alloc _
  have hb5 : Blk w5 w4.heap.size 26 #[.slice A3 32 c3, .slice A4 8 c4, .slice A m c] := hw5 ▸ Blk.new w4 _ _
  have F5 := Lib.hid (F4.out.trans f5)
  have HO5 := Lib.hid (HO4.out.fr f5 (by simp))
  have HTX := Lib.hid (show TxIn w5 (some ⟨w4.heap.size, 0, none⟩) [last, numB (n : Int), b] from tx3 hb5 HL32.out (HR34.out.fr f5 (by simp)) (numB_length _) (HR4.out.fr f5 (by simp)) HM.out (HA.out.fr F5.out (by simp)))
  clear hw5 f5 hb5
  go_wp2_with (first
    | (go_at_call 43; (refine (rpre_calls w5 87 _ 3 3 _ rfl HTX.out HBD.out (by omega)).mono ?_); rintro e w6 ⟨A6, c6, rfl, ho6, f6⟩; rw [HPL.out] at ho6 ⊢; have HR6 := Lib.hid (OwnN.rdd ho6); have F6 := Lib.hid (F5.out.trans f6); have HO6 := Lib.hid (HO5.out.fr f6 (by simp)); clear ho6 f6)
    | (go_at_call 42; (refine (rsum_calls w6 A6 pl c6 _ HPL.out HR6.out HPB.out).mono ?_); rintro e w7 ⟨rfl, f7⟩; rw [HSR.out]; have F7 := Lib.hid (F6.out.trans f7); have HO7 := Lib.hid (HO6.out.fr f7 (by simp)); clear f7)
    | (refine wpList_store_agg rfl 41 (.tmp 6) (.tmp 17) rfl w1.heap.size 0 rfl (u8s (sumR last n b)) rfl (zs 32) 41 HO7.out HDF.out.1 (u8s_one _) HDF.out.2.1 ?_; rw [HDF.out.2.2]))
  refine bodyPost_ret (results_cell_row (p := 6) (ty := 41) rfl _ _ w1.heap.size 41 (u8s (sumR last n b)).toArray (0, 0) _ rfl (HO7.out.setRow_ _) Try.underlying41 rfl (by rw [List.size_toArray]; exact HDF.out.2.1)) rfl ?_
  exact ⟨rfl, Fr.setRow F7.out (.inr HS1.out) _⟩
end Go.Proofs.Ytmmjihkcofgmmaa
