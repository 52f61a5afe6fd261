/- History's laws: rows of texts, joined. -/
import Derived.Test.YtmgbimdebhhckaaHistV
namespace Go.Proofs.Ytmgbimdebhhckaa
open Go.RowKit
set_option linter.unusedVariables false

theorem own_cells {w : World} {base : Nat} {e : TypeId} {v : Value} {n : Nat} {xs : List Value} (h : w.ownsRow base e 1 v n xs) : ∃ A c, v = .slice A n c ∧ n ≤ c ∧ (0 < n → ∃ g, A = some ⟨g, 0, none⟩ ∧ base ≤ g ∧ g < w.heap.size) ∧ ∀ j u, xs[j]? = some u → ∃ g, A = some ⟨g, 0, none⟩ ∧ g < w.heap.size ∧ w.cell? ⟨g, j, none⟩ = some u := by
  have hl := h.1
  rcases h.2 with ⟨rfl, h0⟩ | ⟨g, cap, cur, rfl, hb, hg, hnc, _, hsz, htk⟩
  · subst h0
    exact ⟨none, 0, rfl, Nat.le_refl _, by omega, fun j u hu => by have := (List.getElem?_eq_some_iff.1 hu).1; omega⟩
  · have hgl := (Array.getElem?_eq_some_iff.1 hg).1
    refine ⟨_, cap, rfl, hnc, fun _ => ⟨g, rfl, hb, hgl⟩, fun j u hu => ⟨g, rfl, hgl, ?_⟩⟩
    have hj := (List.getElem?_eq_some_iff.1 hu).1
    have := h.cellAt j (by omega)
    rw [this]; exact hu
theorem TxRow.toIn {w : World} {v : Value} {D : List Nat} {base : Nat} {T : List (List UInt8)} (h : TxRow w v D base T) : ∃ A c, v = .slice A T.length c ∧ T.length ≤ c ∧ TxIn w A T := by
  obtain ⟨vs, h1, h2, h3⟩ := h
  obtain ⟨A, c, rfl, hc, _, hcell⟩ := own_cells h2
  refine ⟨A, c, rfl, hc, fun i t ht => ?_⟩
  obtain ⟨B, d, e1, e2, _⟩ := h3 i t ht
  obtain ⟨g, rfl, hg, hcl⟩ := hcell i _ e1
  exact ⟨g, 0, B, d, rfl, hg, by rw [Nat.zero_add]; exact hcl, e2⟩
theorem TxRow.frD {w w' : World} {v : Value} {D : List Nat} {base : Nat} {T : List (List UInt8)} (h : TxRow w v D base T) (hf : Fr [] w w') : TxRow w' v D base T := h.fr hf (by simp) (by simp)
theorem TxRow.lt {w : World} {v : Value} {D : List Nat} {base : Nat} {T : List (List UInt8)} (h : TxRow w v D base T) : ∀ k, v.ownBlock = some k → base ≤ k ∧ k < w.heap.size := by
  obtain ⟨vs, _, h2, _⟩ := h
  exact fun k hk => h2.lt k hk
theorem sq_appT {Q : Exit → Act → World → Prop} {o : Oper} {a : Act} {w : World} {K : Act → World → Prop} (hgd : o.guard = none) (s x : Operand) (d : Tmp) (hd : o.dst = some d)
    (ho : o.op = .call { callee := .builtin .append, args := #[s, x], argTypes := #[37, 37] })
    (base base2 : Nat) (v1 v2 : Value) (D1 D2 : List Nat) (T1 T2 : List (List UInt8)) (hs : a.eval s = v1) (h1 : TxRow w v1 D1 base T1) (hx : a.eval x = v2) (h2 : TxRow w v2 D2 base2 T2)
    (hd2 : ∀ k, v1.ownBlock = some k → k ∈ D2) (hbd : T1.length + T2.length ≤ 100000) (hbase : base ≤ w.heap.size)
    (h : ∀ v' w', TxRow w' v' [] base (T1 ++ T2) → Fr v1.ownBlock.toList w w' → K (a.put (some d) v') w') : Oper.wp Try.prog o a w K Q := by
  have hw : Region.wanted o (yielded #[] a.tmps) = true := by simp [Region.wanted, hgd]
  obtain ⟨vs1, p1, q1, r1⟩ := h1
  obtain ⟨vs2, p2, q2, r2⟩ := h2
  obtain ⟨A2, c2, rfl, hc2, _, hcell⟩ := own_cells q2
  have hone : ∀ u ∈ vs2, u.oneCell' = true := fun u hu => by
    obtain ⟨j, hj, rfl⟩ := List.getElem_of_mem hu
    obtain ⟨B, dd, e1, _⟩ := r2 j (T2[j]'(by omega)) (by simp)
    rw [List.getElem?_eq_getElem hj] at e1
    injection e1 with e1
    rw [e1]; rfl
  have hsrc : 0 < vs2.length → ∃ ad, A2 = some ad ∧ ∀ j u, vs2[j]? = some u → w.cell? (ad.add j) = some u := fun hl => by
    obtain ⟨g, hA, _⟩ := hcell 0 vs2[0] (by simp)
    refine ⟨_, hA, fun j u hu => ?_⟩
    obtain ⟨g', hA', _, hc⟩ := hcell j u hu
    rw [hA] at hA'
    injection hA' with hA'
    injection hA' with hA' _ _
    subst hA'
    rw [addr_add0, Nat.zero_add]; exact hc
  have := step_append (P := Try.prog) (ops := #[]) (K := K) (Q := Q) (E := True) (a := a) (w := w) hw s x 37 ho base 45 (.slice none 0 0) 1 24 Try.underlying37 infoSl rfl (by decide) v1 T1.length vs1 hs q1
    A2 T2.length c2 vs2 hx (by rw [p2]; omega) hsrc hone (by unfold maxLen; omega) (by omega) hbase
    (fun v' w' ho' _ hg' hb => by
      rw [hd]
      have hf : Fr v1.ownBlock.toList w w' := (Fr.refl _ _).grown hg' (fun k hk => .inl (by simp [hk]))
      refine h v' w' ⟨vs1 ++ vs2, by simp [p1, p2], by simpa using ho', fun i t ht => ?_⟩ hf
      have key : ∀ (B : Option Addr) (u : List UInt8), Rd w B u → (0 < u.length → ∀ b off, B = some ⟨b, off, none⟩ → some b ≠ v1.ownBlock) → Rd w' B u ∧ (0 < u.length → ∀ b off, B = some ⟨b, off, none⟩ → b ∉ ([] : List Nat) ∧ some b ≠ v'.ownBlock) := by
        intro B u hB hn
        refine ⟨hB.fr0 hf (fun hl b off hb' hm => ?_), fun hl b off hb' => ⟨by simp, ?_⟩⟩
        · simp only [Option.mem_toList] at hm
          exact hn hl b off hb' hm.symm
        · rcases hb with hb | hb
          · rw [hb]; exact hn hl b off hb'
          · rw [hb]
            subst hb'
            have := hB.lt hl
            intro e
            injection e with e
            omega
      rcases Nat.lt_or_ge i T1.length with hi | hi
      · rw [List.getElem?_append_left hi] at ht
        obtain ⟨B, dd, e1, e2, e3⟩ := r1 i t ht
        obtain ⟨k1, k2⟩ := key B t e2 (fun hl b off hb => (e3 hl b off hb).2)
        exact ⟨B, dd, by rw [List.getElem?_append_left (by omega)]; exact e1, k1, k2⟩
      · rw [List.getElem?_append_right hi] at ht
        obtain ⟨B, dd, e1, e2, e3⟩ := r2 (i - T1.length) t ht
        obtain ⟨k1, k2⟩ := key B t e2 (fun hl b off hb e => (e3 hl b off hb).1 (hd2 b e.symm))
        exact ⟨B, dd, by rw [List.getElem?_append_right (by omega), p1]; exact e1, k1, k2⟩)
  rwa [if_pos hw] at this
theorem wpList_appT {ops : Array Oper} {rest : List Oper} {o : Oper} {a : Act} {w : World} {Q : Exit → Act → World → Prop} (hgd : o.guard = none) (s x : Operand) (d : Tmp) (hd : o.dst = some d)
    (ho : o.op = .call { callee := .builtin .append, args := #[s, x], argTypes := #[37, 37] })
    (base base2 : Nat) (v1 v2 : Value) (D1 D2 : List Nat) (T1 T2 : List (List UInt8)) (hs : a.eval s = v1) (h1 : TxRow w v1 D1 base T1) (hx : a.eval x = v2) (h2 : TxRow w v2 D2 base2 T2)
    (hd2 : ∀ k, v1.ownBlock = some k → k ∈ D2) (hbd : T1.length + T2.length ≤ 100000) (hbase : base ≤ w.heap.size)
    (h : ∀ v' w', TxRow w' v' [] base (T1 ++ T2) → Fr v1.ownBlock.toList w w' → wpList Try.prog ops Q rest (a.put (some d) v') w') : wpList Try.prog ops Q (o :: rest) a w :=
  wpList_plain hgd fun K hK => sq_appT (K := K) hgd s x d hd ho base base2 v1 v2 D1 D2 T1 T2 hs h1 hx h2 hd2 hbd hbase (fun v' w' a b => hK _ _ (h v' w' a b))
theorem node_len (a b : List UInt8) (ha : a.length = 32) (hb : b.length = 32) : (nodeB a b).length ≤ 1000 := by rw [show nodeB a b = preB 78 [a, b] from rfl, preB_node a b ha hb]; omega
theorem leaf_len (a : List UInt8) (ha : a.length = 32) : (leafB a).length ≤ 1000 := by rw [show leafB a = preB 76 [a] from rfl, preB_leaf a ha]; omega
theorem upF_texts (n : Nat) : ∀ (i : Nat) (x : List UInt8) (L : List (List UInt8)), x.length = 32 → (∀ p ∈ L, p.length = 32) → ∀ t ∈ (upF n i x L).N, t.length ≤ 1000 := by
  induction n using Nat.strongRecOn with
  | _ n ih =>
    intro i x L hx hL
    by_cases h : n ≤ 1
    · rw [upF_one n i x L h]; simp; exact leaf_len x hx
    · rcases hLL : L.getLast? with _ | o
      · rw [upF_none n i x L h hLL]; simp
      · obtain ⟨a1, a2⟩ := last_all hLL hL
        by_cases hi : i < hfN n
        · rw [upF_left n i x L o h hLL hi]
          intro t ht
          simp only [List.mem_append, List.mem_singleton] at ht
          rcases ht with ht | rfl
          · exact ih _ (hfN_lt n h) i x _ hx a2 t ht
          · exact node_len _ _ (upF_d32 _ _ _ _) a1
        · rw [upF_right n i x L o h hLL hi]
          intro t ht
          simp only [List.mem_append, List.mem_singleton] at ht
          rcases ht with ht | rfl
          · exact ih _ (by have := hfN_pos n h; omega) _ x _ hx a2 t ht
          · exact node_len _ _ a1 (upF_d32 _ _ _ _)
theorem boF_texts (a : List UInt8) (ha : a.length = 32) (n : Nat) : ∀ (m : Nat) (own : Bool) (L : List (List UInt8)), 1 ≤ m → m ≤ n → (∀ p ∈ L, p.length = 32) → ∀ t ∈ (boF a m n own L).N, t.length ≤ 1000 := by
  induction n using Nat.strongRecOn with
  | _ n ih =>
    intro m own L h1 h2 hp
    rcases boF_cases a m n own L h1 h2 with ⟨rfl, rfl⟩ | ⟨h, hL⟩ | ⟨o, hL, ⟨h, rfl⟩ | ⟨h, g⟩ | ⟨h, g⟩⟩
    · rw [boF_own]; simp
    · rw [boF_none a m n own L h hL]; simp
    · rw [boF_all a m m own L o h hL rfl]; simp
    · obtain ⟨a1, a2⟩ := last_all hL hp
      obtain ⟨r1, r2, _⟩ := boF_32 a ha (hfN n) m own L.dropLast h1 g a2
      rw [boF_left a m n own L o h1 h hL g]
      intro t ht
      simp only [List.mem_append, List.mem_singleton] at ht
      rcases ht with ht | rfl
      · exact ih _ (hfN_lt n (by omega)) m own _ h1 g a2 t ht
      · exact node_len _ _ r2 a1
    · obtain ⟨a1, a2⟩ := last_all hL hp
      have hpos := hfN_pos n (by omega)
      obtain ⟨r1, r2, _⟩ := boF_32 a ha (n - hfN n) (m - hfN n) false L.dropLast (by omega) (by omega) a2
      rw [boF_right a m n own L o h1 h hL g]
      intro t ht
      simp only [List.mem_append, List.mem_cons, List.not_mem_nil, or_false] at ht
      rcases ht with ht | rfl | rfl
      · exact ih _ (by omega) _ false _ (by omega) (by omega) a2 t ht
      · exact node_len _ _ a1 r1
      · exact node_len _ _ a1 r2
theorem ppN_texts (n i : Int) (x : List UInt8) (L : List (List UInt8)) (hx : x.length = 32) (hL : ∀ p ∈ L, p.length = 32) : ∀ t ∈ ppN n i x L, t.length ≤ 1000 := by
  unfold ppN
  split
  · exact upF_texts _ _ _ _ hx hL
  · simp
theorem ppN_length (n i : Int) (x : List UInt8) (L : List (List UInt8)) : (ppN n i x L).length ≤ L.length + 1 := by
  unfold ppN
  split
  · exact (upF_len _ _ _ _).2.1
  · simp
theorem gpN_texts (a : List UInt8) (ha : a.length = 32) (m n : Int) (L : List (List UInt8)) (hL : ∀ p ∈ L, p.length = 32) : ∀ t ∈ gpN a m n L, t.length ≤ 1000 := by
  unfold gpN
  split
  · rename_i h
    exact boF_texts a ha _ _ _ _ (by unfold grOk at h; omega) (by unfold grOk at h; omega) hL
  · simp
theorem gpN_length (a : List UInt8) (ha : a.length = 32) (m n : Int) (L : List (List UInt8)) (hL : ∀ p ∈ L, p.length = 32) : (gpN a m n L).length ≤ 2 * L.length := by
  unfold gpN
  split
  · rename_i h
    exact (boF_32 a ha _ _ _ _ (by unfold grOk at h; omega) (by unfold grOk at h; omega) hL).2.2.2.1
  · simp
theorem inB_out {root : List UInt8} {n i : Int} {x : List UInt8} {L : List (List UInt8)} (h : inB root n i x L = true) : inOk n i ∧ (upF n.toNat i.toNat x L).k = false ∧ (upF n.toNat i.toNat x L).L = [] ∧ (upF n.toNat i.toNat x L).d = root := by
  simp only [inB, Bool.and_eq_true, decide_eq_true_eq, Bool.not_eq_true', beq_iff_eq] at h
  exact ⟨h.1, h.2.1.1, List.eq_nil_of_length_eq_zero h.2.1.2, h.2.2⟩
/-- what a growth and two paths bind, of the program's own answers -/
theorem binds_clash (a b x y : List UInt8) (m n i : Int) (P Q G : List (List UInt8)) (ha : a.length = 32) (hx : x.length = 32) (hy : y.length = 32) (hP : ∀ p ∈ P, p.length = 32) (hQ : ∀ p ∈ Q, p.length = 32) (hG : ∀ p ∈ G, p.length = 32)
    (g1 : grB a m b n G = true) (g2 : inB a m i x P = true) (g3 : inB b n i y Q = true) (hxy : (x == y) = false) : clashB ((ppN m i x P ++ ppN n i y Q) ++ gpN a m n G) = true := by
  obtain ⟨o1, k1, l1, d1⟩ := inB_out g2
  obtain ⟨o2, k2, l2, d2⟩ := inB_out g3
  have hm0 : m ≠ 0 := by unfold inOk at o1; omega
  unfold grB at g1
  rw [if_neg hm0] at g1
  simp only [Bool.and_eq_true, decide_eq_true_eq, Bool.not_eq_true', beq_iff_eq] at g1
  obtain ⟨og, ⟨⟨kg, lg⟩, dx⟩, dy⟩ := g1
  rw [clashB_iff]
  by_cases hT : clashL ((ppN m i x P ++ ppN n i y Q) ++ gpN a m n G)
  · exact hT
  exfalso
  have eP : ppN m i x P = (upF m.toNat i.toNat x P).N := by unfold ppN; rw [if_pos o1]
  have eQ : ppN n i y Q = (upF n.toNat i.toNat y Q).N := by unfold ppN; rw [if_pos o2]
  have eG : gpN a m n G = (boF a m.toNat n.toNat true G).N := by unfold gpN; rw [if_pos ⟨og, hm0⟩]
  have := bind_law _ hT a x y ha hx hy n.toNat m.toNat i.toNat true P Q G (by unfold inOk at o1; omega) (by unfold grOk at og; omega) (by unfold grOk at og; omega) (by unfold inOk at o1; omega) hP hQ hG k1 l1 k2 l2 kg (List.eq_nil_of_length_eq_zero lg)
    (fun t ht => by rw [eP]; simp [ht]) (fun t ht => by rw [eQ]; simp [ht]) (fun t ht => by rw [eG]; simp [ht]) (d1.trans dx.symm) (d2.trans dy.symm)
  rw [this] at hxy
  simp at hxy
end Go.Proofs.Ytmgbimdebhhckaa
