/- History's laws: a row of texts that is appended to twice. -/
import Derived.Test.YtmgbimdebhhckaaHistW
import Derived.Deep.Upon
namespace Go.Proofs.Ytmgbimdebhhckaa
open Go.RowKit
set_option linter.unusedVariables false

theorem run_appT (w : World) (base base2 : Nat) (v1 v2 : Value) (D1 D2 : List Nat) (T1 T2 : List (List UInt8)) (ty : TypeId) (h1 : TxRow w v1 D1 base T1) (h2 : TxRow w v2 D2 base2 T2)
    (hd2 : ∀ k, v1.ownBlock = some k → k ∈ D2) (hbd : T1.length + T2.length ≤ 100000) (hbase : base ≤ w.heap.size) :
    ∃ v' w', (Builtin.append_ #[37, 37] ty #[v1, v2]).run Try.prog w = .ok v' w' ∧ TxRow w' v' [] base (T1 ++ T2) ∧ TxRow w' v1 D1 base T1 ∧ Fr v1.ownBlock.toList w w' := by
  obtain ⟨vs1, p1, q1, r1⟩ := h1
  obtain ⟨vs2, p2, q2, r2⟩ := h2
  obtain ⟨A2, c2, rfl, hc2, _, hcell⟩ := own_cells q2
  have hone : ∀ u ∈ vs2, u.oneCell' = true := fun u hu => by
    obtain ⟨j, hj, rfl⟩ := List.getElem_of_mem hu
    obtain ⟨B, dd, e1, _⟩ := r2 j (T2[j]'(by omega)) (by simp)
    rw [List.getElem?_eq_getElem hj] at e1
    injection e1 with e1
    rw [e1]; rfl
  have hsrc : 0 < vs2.length → ∃ ad, A2 = some ad ∧ ∀ j u, vs2[j]? = some u → w.cell? (ad.add j) = some u := fun hl => by
    obtain ⟨g, hA, _⟩ := hcell 0 vs2[0] (by simp)
    refine ⟨_, hA, fun j u hu => ?_⟩
    obtain ⟨g', hA', _, hc⟩ := hcell j u hu
    rw [hA] at hA'
    injection hA' with hA'
    injection hA' with hA' _ _
    subst hA'
    rw [addr_add0, Nat.zero_add]; exact hc
  obtain ⟨v', w', hrun, ho', hg', hb⟩ := run_append_any (P := Try.prog) (w := w) base 37 ty 45 (.slice none 0 0) 1 24 Try.underlying37 infoSl rfl (by decide) v1 T1.length vs1 q1
    A2 T2.length c2 vs2 (by rw [p2]; omega) hsrc hone (by unfold maxLen; omega) (by omega) hbase
  have hf : Fr v1.ownBlock.toList w w' := (Fr.refl _ _).grown hg' (fun k hk => .inl (by simp [hk]))
  have key : ∀ (B : Option Addr) (u : List UInt8), Rd w B u → (0 < u.length → ∀ b off, B = some ⟨b, off, none⟩ → some b ≠ v1.ownBlock) → Rd w' B u ∧ (0 < u.length → ∀ b off, B = some ⟨b, off, none⟩ → b ∉ ([] : List Nat) ∧ some b ≠ v'.ownBlock) := by
    intro B u hB hn
    refine ⟨hB.fr0 hf (fun hl b off hb' hm => ?_), fun hl b off hb' => ⟨by simp, ?_⟩⟩
    · simp only [Option.mem_toList] at hm
      exact hn hl b off hb' hm.symm
    · rcases hb with hb | hb
      · rw [hb]; exact hn hl b off hb'
      · rw [hb]
        subst hb'
        have := hB.lt hl
        intro e
        injection e with e
        omega
  refine ⟨v', w', hrun, ⟨vs1 ++ vs2, by simp [p1, p2], by simpa using ho', fun i t ht => ?_⟩, ⟨vs1, p1, ?_, fun i t ht => ?_⟩, hf⟩
  · rcases Nat.lt_or_ge i T1.length with hi | hi
    · rw [List.getElem?_append_left hi] at ht
      obtain ⟨B, dd, e1, e2, e3⟩ := r1 i t ht
      obtain ⟨k1, k2⟩ := key B t e2 (fun hl b off hb => (e3 hl b off hb).2)
      exact ⟨B, dd, by rw [List.getElem?_append_left (by omega)]; exact e1, k1, k2⟩
    · rw [List.getElem?_append_right hi] at ht
      obtain ⟨B, dd, e1, e2, e3⟩ := r2 (i - T1.length) t ht
      obtain ⟨k1, k2⟩ := key B t e2 (fun hl b off hb e => (e3 hl b off hb).1 (hd2 b e.symm))
      exact ⟨B, dd, by rw [List.getElem?_append_right (by omega), p1]; exact e1, k1, k2⟩
  · rcases q1.2 with ⟨rfl, h0⟩ | ⟨g, cap, cur, rfl, hbg, hgc, hnc, hcm, hsz, htk⟩
    · have : vs1 = [] := List.eq_nil_of_length_eq_zero (by rw [p1, h0])
      rw [this, h0]; exact World.ownsRow_nil _ _ _ _
    · have hgl := (Array.getElem?_eq_some_iff.1 hgc).1
      have hcame : Came w 1 (some ⟨g, 0, none⟩) g 0 T1.length cap vs1 := by
        refine ⟨hnc, fun _ => rfl, fun _ => hgl, by rw [p1]; omega, fun j u hu => ?_, fun j hj => ?_⟩
        · have hj := (List.getElem?_eq_some_iff.1 hu).1
          have := q1.cellAt j (by omega)
          rw [Nat.zero_add, this]; exact hu
        · constructor
          · rw [cell_of_row w g _ cur _ _ hgc, Array.getElem?_eq_getElem (by omega)]; rfl
          · exact frozen_of_row w g _ cur _ hgc
      obtain ⟨i, hi, hz, hs1, hs2⟩ := info_parts infoSl
      have hSrc : Src Try.prog 1 37 (.slice A2 T2.length c2) T2.length vs2 w := by
        rcases A2 with _ | ad
        · have hn2 : T2.length = 0 := by
            rcases Nat.eq_zero_or_pos T2.length with h | h
            · exact h
            · obtain ⟨ad, h, _⟩ := hsrc (by omega); cases h
          have hv2 : vs2 = [] := List.eq_nil_of_length_eq_zero (by omega)
          rw [hn2, hv2]
          exact Src.ofNil w Try.underlying37 c2
        · refine Src.ofSlice w Try.underlying37 ad T2.length c2 vs2 (by omega) (fun j u hu => ?_) hone
          obtain ⟨ad', h, hc⟩ := hsrc (by have := (List.getElem?_eq_some_iff.1 hu).1; omega)
          injection h with h
          subst h
          exact hc j u hu
      obtain ⟨v2', w2', hrun2, hu⟩ := run_append_upon (P := Try.prog) hcame 37 37 ty i (.slice none 0 0) 24 Try.underlying37 hi hz hs1 hs2 rfl (Upon.start hcame (e := 45)) (.slice A2 T2.length c2) T2.length vs2 hSrc (by unfold maxLen; omega) (by omega)
      rw [hrun] at hrun2
      injection hrun2 with e1 e2
      subst e1 e2
      rcases hu.val with ⟨hle, hv, _⟩ | ⟨hgt, _⟩
      · subst hv
        rcases ho'.2 with ⟨h0, _⟩ | ⟨g', cap', cur', h0, _, hg2, _, _, hsz2, htk2⟩
        · injection h0 with h0 _ _; cases h0
        · injection h0 with h0 _ h3
          injection h0 with h0
          injection h0 with h0 _ _
          subst h0 h3
          refine ⟨q1.1, .inr ⟨g, cap, cur', rfl, hbg, hg2, hnc, hcm, hsz2, ?_⟩⟩
          have := congrArg (List.take (T1.length * 1)) htk2
          rw [List.take_take, List.take_left' (by rw [p1]; omega)] at this
          rw [show min (T1.length * 1) ((T1.length + T2.length) * 1) = T1.length * 1 by omega] at this
          exact this
      · have hr0 : Upon.next T1.length cap 1 0 0 T2.length = 0 := by unfold Upon.next; rw [if_neg (by omega)]
        have hk := hu.kept
        rw [hr0] at hk
        have hblk := hk.block hgl (fun p ⟨j, hj, _⟩ => absurd hj (by omega))
        exact ⟨q1.1, .inr ⟨g, cap, cur, rfl, hbg, hblk.trans hgc, hnc, hcm, hsz, htk⟩⟩
  · obtain ⟨B, dd, e1, e2, e3⟩ := r1 i t ht
    exact ⟨B, dd, e1, (key B t e2 (fun hl b off hb => (e3 hl b off hb).2)).1, e3⟩
theorem sq_appT2 {Q : Exit → Act → World → Prop} {o : Oper} {a : Act} {w : World} {K : Act → World → Prop} (s x : Operand) (d : Tmp) (hd : o.dst = some d)
    (ho : o.op = .call { callee := .builtin .append, args := #[s, x], argTypes := #[37, 37] })
    (base base2 : Nat) (v1 v2 : Value) (D1 D2 : List Nat) (T1 T2 : List (List UInt8)) (hs : a.eval s = v1) (h1 : TxRow w v1 D1 base T1) (hx : a.eval x = v2) (h2 : TxRow w v2 D2 base2 T2)
    (hd2 : ∀ k, v1.ownBlock = some k → k ∈ D2) (hbd : T1.length + T2.length ≤ 100000) (hbase : base ≤ w.heap.size)
    (h : ∀ v' w', TxRow w' v' [] base (T1 ++ T2) → TxRow w' v1 D1 base T1 → Fr v1.ownBlock.toList w w' → K (a.put (some d) v') w') : Oper.wp Try.prog o a w K Q := by
  obtain ⟨v', w', hrun, h3, h4, h5⟩ := run_appT w base base2 v1 v2 D1 D2 T1 T2 o.type h1 h2 hd2 hbd hbase
  refine opwp_val (v := v') (w' := w') ?_ (by rw [hd]; exact h v' w' h3 h4 h5)
  unfold execOp
  simp only [ho, resolve, invoke, builtin, Sem.run_bind, Sem.run_pure, Result.andThen_ok, List.map_toArray, List.map_cons, List.map_nil, hs, hx, hrun]
end Go.Proofs.Ytmgbimdebhhckaa
