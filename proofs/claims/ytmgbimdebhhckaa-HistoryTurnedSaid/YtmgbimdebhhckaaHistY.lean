/- HistoryTurned: what it needs beside the rest: a copy of a row of digests, one digest of it another one, and the plain law. -/
import Derived.Test.YtmgbimdebhhckaaHistX
namespace Go.Proofs.Ytmgbimdebhhckaa
open Go.RowKit
set_option linter.unusedVariables false

/-- two proofs that hold against one sum are the same, or there is a clash -/
theorem turned_clash (r x y : List UInt8) (n i : Int) (P Q : List (List UInt8)) (hx : x.length = 32) (hy : y.length = 32) (hP : ∀ p ∈ P, p.length = 32) (hQ : ∀ p ∈ Q, p.length = 32)
    (g1 : inB r n i x P = true) (g2 : inB r n i y Q = true) (hne : ¬ (x = y ∧ P = Q)) : clashB (ppN n i x P ++ ppN n i y Q) = true := by
  obtain ⟨o1, k1, l1, d1⟩ := inB_out g1
  obtain ⟨o2, k2, l2, d2⟩ := inB_out g2
  rw [clashB_iff]
  by_cases hT : clashL (ppN n i x P ++ ppN n i y Q)
  · exact hT
  exfalso
  have eP : ppN n i x P = (upF n.toNat i.toNat x P).N := by unfold ppN; rw [if_pos o1]
  have eQ : ppN n i y Q = (upF n.toNat i.toNat y Q).N := by unfold ppN; rw [if_pos o2]
  exact hne (up_same _ hT n.toNat i.toNat x y P Q hx hy hP hQ k1 l1 k2 l2 (fun t ht => by rw [eP]; simp [ht]) (fun t ht => by rw [eQ]; simp [ht]) (d1.trans d2.symm))
/-- no digests, built -/
theorem ex_build_dg0 {a : Act} {o : Oper} (ho : o.op = .buildSlice 22 0 #[]) (w : World) :
    (execOp a.eval o).run Try.prog w = .ok (.value (.slice (some ⟨w.heap.size, 0, none⟩) 0 0)) (w.alloc (.cells #[] 25)) := by
  obtain ⟨i, hi, hz, hs, hb⟩ := info_parts infoDg
  unfold execOp
  simp [ho, Instr.buildSlice, run_underlying Try.underlying22, sizeOf, typeInfo, hi, newRow, Instr.fill]
  rw [show (Array.range 0) = #[] from by apply Array.eq_empty_of_size_eq_zero; simp]
  rw [Array.map_empty]
theorem own_dg0 (w : World) : (w.alloc (.cells #[] 25)).ownsRow w.heap.size 25 32 (.slice (some ⟨w.heap.size, 0, none⟩) 0 0) ([] : List (List UInt8)).length (([] : List (List UInt8)).flatMap u8s) :=
  ⟨by simp, .inr ⟨_, 0, #[], rfl, Nat.le_refl _, Blk.new w _ _, Nat.le_refl _, by unfold maxLen; omega, by simp, by simp⟩⟩
theorem flat32_len : ∀ (ps : List (List UInt8)), (∀ p ∈ ps, p.length = 32) → (ps.flatMap u8s).length = ps.length * 32 := by
  intro ps
  induction ps with
  | nil => simp
  | cons p ps ih =>
    intro hp
    rw [List.flatMap_cons, List.length_append, ih (fun q hq => hp q (by simp [hq])), u8s_length, hp p (by simp), List.length_cons]
    omega
/-- a row's digests, cell by cell -/
theorem dgs_src {w : World} {A : Option Addr} {ps : List (List UInt8)} (hp : ∀ p ∈ ps, p.length = 32) (h : DgIn w A ps) (hl : 0 < (ps.flatMap u8s).length) : ∃ ad, A = some ad ∧ ∀ j u, (ps.flatMap u8s)[j]? = some u → w.cell? (ad.add j) = some u := by
  have hf := flat32_len ps hp
  obtain ⟨b, off, hA⟩ := h.some_ (by omega)
  subst hA
  refine ⟨_, rfl, fun j u hu => ?_⟩
  have hj := (List.getElem?_eq_some_iff.1 hu).1
  have hi : j / 32 < ps.length := by omega
  have hd : ps[j / 32]? = some ps[j / 32] := List.getElem?_eq_getElem hi
  have h32 : ps[j / 32].length = 32 := hp _ (List.getElem_mem hi)
  have hr : j % 32 < (u8s ps[j / 32]).length := by rw [u8s_length, h32]; omega
  have hv : (u8s ps[j / 32])[j % 32]? = some (u8s ps[j / 32])[j % 32] := List.getElem?_eq_getElem hr
  have e1 := flat32 ps hp (j / 32) (j % 32) _ _ hd hv
  rw [show j / 32 * 32 + j % 32 = j by omega, hu] at e1
  injection e1 with e1
  have := h.at (j / 32) _ hd (j % 32) _ hv
  rw [show off + j / 32 * 32 + j % 32 = off + j by omega] at this
  rw [e1, show (⟨b, off, none⟩ : Addr).add j = ⟨b, off + j, none⟩ from by unfold Addr.add; split <;> simp_all]
  exact this
theorem wpList_appDgs {ops : Array Oper} {rest : List Oper} {o : Oper} {a : Act} {w : World} {Q : Exit → Act → World → Prop} (hgd : o.guard = none) (s x : Operand) (d : Tmp) (hd : o.dst = some d)
    (ho : o.op = .call { callee := .builtin .append, args := #[s, x], argTypes := #[22, 22] })
    (base : Nat) (v : Value) (hs : a.eval s = v) (hown : w.ownsRow base 25 32 v ([] : List (List UInt8)).length (([] : List (List UInt8)).flatMap u8s)) (ps : List (List UInt8)) (hp : ∀ p ∈ ps, p.length = 32) (A : Option Addr) (n c : Nat) (hn : ps.length = n)
    (hx : a.eval x = .slice A n c) (hD : DgIn w A ps) (hbd : ps.length ≤ 100000) (hbase : base ≤ w.heap.size)
    (h : ∀ v' w', w'.ownsRow base 25 32 v' n (ps.flatMap u8s) → Fr v.ownBlock.toList w w' → wpList Try.prog ops Q rest (a.put (some d) v') w') : wpList Try.prog ops Q (o :: rest) a w :=
  wpList_plain hgd fun K hK => by
    subst hn
    have hw : Region.wanted o (yielded #[] a.tmps) = true := by simp [Region.wanted, hgd]
    have := step_append (P := Try.prog) (ops := #[]) (K := K) (Q := Q) (E := True) (a := a) (w := w) hw s x 22 ho base 25 (.agg (zs 32).toArray) 32 32 Try.underlying22 infoDg (by simp [Value.cells, zs_length]) (by decide) v 0 [] hs (by simpa using hown)
      A ps.length c (ps.flatMap u8s) hx (flat32_len ps hp) (fun hl => dgs_src hp hD hl) (fun u hu => by
        rw [List.mem_flatMap] at hu
        obtain ⟨p, _, hu⟩ := hu
        exact u8s_one p u hu) (by unfold maxLen; omega) (by omega) hbase
      (fun v' w' ho' _ hg' hb => by
        rw [hd]
        refine hK _ _ (h v' w' ?_ ((Fr.refl _ _).grown hg' (fun k hk => .inl (by simp [hk]))))
        simpa using ho')
    rwa [if_pos hw] at this
/-- the row of one's own by its form -/
theorem own_dgf {w : World} {base : Nat} {v : Value} {n : Nat} {xs : List Value} (h : w.ownsRow base 25 32 v n xs) (hn : 0 < n) :
    ∃ (g c : Nat) (cur : List Value), v = .slice (some ⟨g, 0, none⟩) n c ∧ base ≤ g ∧ Blk w g 25 cur.toArray ∧ n ≤ c ∧ n * 32 ≤ cur.length ∧ cur.take (n * 32) = xs := by
  rcases h.2 with ⟨_, h0⟩ | ⟨g, cap, cur, hv, hb, hg, hnc, _, hsz, htk⟩
  · omega
  · exact ⟨g, cap, cur.toList, hv, hb, by rw [Array.toArray_toList]; exact hg, hnc, by rw [Array.length_toList, hsz]; omega, htk⟩
theorem blk_dgs {w : World} {g n : Nat} {cur : List Value} {ps : List (List UInt8)} (hp : ∀ p ∈ ps, p.length = 32) (hn : ps.length = n) (h : Blk w g 25 cur.toArray) (hsz : n * 32 ≤ cur.length) (ht : cur.take (n * 32) = ps.flatMap u8s) : DgIn w (some ⟨g, 0, none⟩) ps := fun i d hd =>
  ⟨hp d (List.mem_of_getElem? hd), g, 0, rfl, h.lt, fun j v hv => by
    have hi := (List.getElem?_eq_some_iff.1 hd).1
    have hj := (List.getElem?_eq_some_iff.1 hv).1
    rw [u8s_length, hp d (List.mem_of_getElem? hd)] at hj
    have e := flat32 ps hp i j d v hd hv
    rw [← ht, List.getElem?_take_of_lt (by omega)] at e
    rw [h.cell, Nat.zero_add, List.getElem?_toArray]
    exact e⟩
/-- one digest of the row is another one -/
theorem dgs_set {w : World} {g n j : Nat} {cur : List Value} {ps : List (List UInt8)} {x : List UInt8} (hp : ∀ p ∈ ps, p.length = 32) (hn : ps.length = n) (h : Blk w g 25 cur.toArray) (hsz : n * 32 ≤ cur.length) (ht : cur.take (n * 32) = ps.flatMap u8s)
    (hj : j < n) (hx : x.length = 32) : DgIn (w.setRow g (splice cur (j * 32) (u8s x)).toArray) (some ⟨g, 0, none⟩) (ps.set j x) := fun i d hd => by
  have hb := h.setRow_ (splice cur (j * 32) (u8s x)).toArray
  have hi := (List.getElem?_eq_some_iff.1 hd).1
  rw [List.length_set] at hi
  have hux : (u8s x).length = 32 := by rw [u8s_length, hx]
  by_cases hij : i = j
  · subst hij
    rw [List.getElem?_set_self (by omega)] at hd
    injection hd with hd
    subst hd
    refine ⟨hx, g, 0, rfl, hb.lt, fun r v hv => ?_⟩
    have hr := (List.getElem?_eq_some_iff.1 hv).1
    rw [hb.cell, Nat.zero_add, List.getElem?_toArray]
    unfold splice
    rw [List.getElem?_append_right (by rw [List.length_take]; omega), List.length_take, Nat.min_eq_left (by omega), Nat.add_sub_cancel_left, List.getElem?_append_left (by omega)]
    exact hv
  · rw [List.getElem?_set_ne (by omega)] at hd
    have h32 := hp d (List.mem_of_getElem? hd)
    refine ⟨h32, g, 0, rfl, hb.lt, fun r v hv => ?_⟩
    have hr := (List.getElem?_eq_some_iff.1 hv).1
    rw [u8s_length, h32] at hr
    have e := flat32 ps hp i r d v hd hv
    rw [← ht, List.getElem?_take_of_lt (by omega)] at e
    rw [hb.cell, Nat.zero_add, List.getElem?_toArray]
    unfold splice
    rcases Nat.lt_or_ge i j with hlt | hge
    · rw [List.getElem?_append_left (by rw [List.length_take]; omega), List.getElem?_take_of_lt (by omega)]
      exact e
    · rw [List.getElem?_append_right (by rw [List.length_take]; omega), List.length_take, Nat.min_eq_left (by omega), List.getElem?_append_right (by omega), List.getElem?_drop, hux]
      rw [show j * 32 + 32 + (i * 32 + r - j * 32 - 32) = i * 32 + r by omega]
      exact e
theorem set_all {ps : List (List UInt8)} (hp : ∀ p ∈ ps, p.length = 32) (j : Nat) (x : List UInt8) (hx : x.length = 32) : ∀ p ∈ ps.set j x, p.length = 32 := fun p hm => by
  rcases List.mem_or_eq_of_mem_set hm with h | h
  · exact hp p h
  · rw [h]; exact hx
theorem set_ne {ps : List (List UInt8)} {j : Nat} {x y : List UInt8} (hy : ps[j]? = some y) (h : (y == x) = false) : ps ≠ ps.set j x := fun e => by
  have hj := (List.getElem?_eq_some_iff.1 hy).1
  have := congrArg (·[j]?) e
  simp only [hy, List.getElem?_set_self hj] at this
  injection this with this
  rw [this] at h
  simp at h
section
variable {P : Program} {Q : Exit → Act → World → Prop} {ops : Array Oper} {md : Region.Mode}
/-- an operation that its guard leaves out, where none but it is ready -/
theorem sqo_idle {w0 : World} {i : Nat} {o : Oper} {d : Tmp} {fuel : Nat} {listed : Array Bool} {a : Act} {w : World} (hi : ops[i]? = some o) (hd : o.dst = some d) (hg : Region.wanted o (yielded ops a.tmps) = false) (hr : Region.ready md ops listed = [i])
    (hS : OldW w0 w) (h : wpAnyH P md ops Q (OldW w0) fuel (listed.setIfInBounds i true) (a.put (some d) undef) w) : wpAnyH P md ops Q (OldW w0) (fuel + 1) listed a w := by
  refine wpAnyH_all hr (by simp) fun j hj => ?_
  obtain rfl := List.mem_singleton.1 hj
  unfold wpOp
  rw [hi]
  simp only [hg, Bool.false_eq_true, if_false]
  rw [hd]
  exact ⟨hS, h⟩
end
end Go.Proofs.Ytmgbimdebhhckaa
