/- History: what a proof's sums bind: plain lists, no program. -/
import Derived.Test.YtmgbimdebhhckaaHistK
namespace Go.Proofs.Ytmgbimdebhhckaa
open Go.RowKit
set_option linter.unusedVariables false

def dig0 : List UInt8 := List.replicate 32 0
def leafB (x : List UInt8) : List UInt8 := preB 76 [x]
def nodeB (x y : List UInt8) : List UInt8 := preB 78 [x, y]
theorem leafB_inj {x y : List UInt8} (hx : x.length = 32) (hy : y.length = 32) (h : leafB x = leafB y) : x = y := by
  simp only [leafB, preB, List.flatMap_cons, List.flatMap_nil, List.append_nil, hx, hy, List.cons.injEq, true_and] at h
  exact (List.append_inj h rfl).2
theorem nodeB_inj {a b c d : List UInt8} (ha : a.length = 32) (hb : b.length = 32) (hc : c.length = 32) (hd : d.length = 32) (h : nodeB a b = nodeB c d) : a = c ∧ b = d := by
  simp only [nodeB, preB, List.flatMap_cons, List.flatMap_nil, List.append_nil, ha, hb, hc, hd, List.cons.injEq, true_and, List.append_assoc] at h
  obtain ⟨_, h1⟩ := List.append_inj h rfl
  obtain ⟨h2, h3⟩ := List.append_inj h1 (by rw [ha, hc])
  exact ⟨h2, (List.append_inj h3 rfl).2⟩
/-- two unlike texts have one sum -/
def clashL (T : List (List UInt8)) : Prop := ∃ s ∈ T, ∃ t ∈ T, shaB s = shaB t ∧ s ≠ t
theorem noclash {T : List (List UInt8)} (h : ¬ clashL T) {s t : List UInt8} (hs : s ∈ T) (ht : t ∈ T) (e : shaB s = shaB t) : s = t := by
  by_cases h1 : s = t
  · exact h1
  · exact absurd ⟨s, hs, t, ht, e, h1⟩ h
structure UpR where
  d : List UInt8
  L : List (List UInt8)
  N : List (List UInt8)
  k : Bool
theorem hfN_lt (n : Nat) (h : ¬ n ≤ 1) : hfN n < n := by unfold hfN; omega
theorem hfN_pos (n : Nat) (h : ¬ n ≤ 1) : 1 ≤ hfN n := by unfold hfN; omega
/-- the sum of n, of which x is the number i; what is left of the sums; what was hashed; did one lack -/
def upF (n i : Nat) (x : List UInt8) (L : List (List UInt8)) : UpR :=
  if h : n ≤ 1 then ⟨shaB (leafB x), L, [leafB x], false⟩
  else match L.getLast? with
  | none => ⟨dig0, [], [], true⟩
  | some o =>
    if i < hfN n then
      let r := upF (hfN n) i x L.dropLast
      ⟨shaB (nodeB r.d o), r.L, r.N ++ [nodeB r.d o], r.k⟩
    else
      let r := upF (n - hfN n) (i - hfN n) x L.dropLast
      ⟨shaB (nodeB o r.d), r.L, r.N ++ [nodeB o r.d], r.k⟩
termination_by n
decreasing_by
  · exact hfN_lt n h
  · have := hfN_pos n h; omega
theorem upF_one (n i : Nat) (x : List UInt8) (L : List (List UInt8)) (h : n ≤ 1) : upF n i x L = ⟨shaB (leafB x), L, [leafB x], false⟩ := by rw [upF, dif_pos h]
theorem upF_none (n i : Nat) (x : List UInt8) (L : List (List UInt8)) (h : ¬ n ≤ 1) (hL : L.getLast? = none) : upF n i x L = ⟨dig0, [], [], true⟩ := by rw [upF, dif_neg h, hL]
theorem upF_left (n i : Nat) (x : List UInt8) (L : List (List UInt8)) (o : List UInt8) (h : ¬ n ≤ 1) (hL : L.getLast? = some o) (hi : i < hfN n) :
    upF n i x L = ⟨shaB (nodeB (upF (hfN n) i x L.dropLast).d o), (upF (hfN n) i x L.dropLast).L, (upF (hfN n) i x L.dropLast).N ++ [nodeB (upF (hfN n) i x L.dropLast).d o], (upF (hfN n) i x L.dropLast).k⟩ := by
  rw [upF, dif_neg h, hL]
  simp only [if_pos hi]
theorem upF_right (n i : Nat) (x : List UInt8) (L : List (List UInt8)) (o : List UInt8) (h : ¬ n ≤ 1) (hL : L.getLast? = some o) (hi : ¬ i < hfN n) :
    upF n i x L = ⟨shaB (nodeB o (upF (n - hfN n) (i - hfN n) x L.dropLast).d), (upF (n - hfN n) (i - hfN n) x L.dropLast).L, (upF (n - hfN n) (i - hfN n) x L.dropLast).N ++ [nodeB o (upF (n - hfN n) (i - hfN n) x L.dropLast).d], (upF (n - hfN n) (i - hfN n) x L.dropLast).k⟩ := by
  rw [upF, dif_neg h, hL]
  simp only [if_neg hi]
theorem last_some {α : Type} {L : List α} {o : α} (h : L.getLast? = some o) : L = L.dropLast ++ [o] := by
  obtain ⟨ys, rfl⟩ := List.getLast?_eq_some_iff.1 h
  simp
theorem last_len {α : Type} {L : List α} {o : α} (h : L.getLast? = some o) : L.length = L.dropLast.length + 1 := by
  have := congrArg List.length (last_some h)
  rwa [List.length_append] at this
theorem last_all {L : List (List UInt8)} {o : List UInt8} (h : L.getLast? = some o) (hL : ∀ p ∈ L, p.length = 32) : o.length = 32 ∧ ∀ p ∈ L.dropLast, p.length = 32 :=
  ⟨hL o (List.mem_of_getLast? h), fun p hp => hL p ((List.dropLast_sublist L).subset hp)⟩
theorem dig0_length : dig0.length = 32 := by simp [dig0]
theorem upF_d32 (n i : Nat) (x : List UInt8) (L : List (List UInt8)) : (upF n i x L).d.length = 32 := by
  by_cases h : n ≤ 1
  · rw [upF_one n i x L h]; exact shaB_length _
  · rcases hL : L.getLast? with _ | o
    · rw [upF_none n i x L h hL]; exact dig0_length
    · by_cases hi : i < hfN n
      · rw [upF_left n i x L o h hL hi]; exact shaB_length _
      · rw [upF_right n i x L o h hL hi]; exact shaB_length _
/-- what is left, and what was hashed -/
theorem upF_len (n : Nat) : ∀ (i : Nat) (x : List UInt8) (L : List (List UInt8)), (upF n i x L).L.length ≤ L.length ∧ (upF n i x L).N.length ≤ L.length + 1 ∧ ((∀ p ∈ L, p.length = 32) → ∀ p ∈ (upF n i x L).L, p.length = 32) := by
  induction n using Nat.strongRecOn with
  | _ n ih =>
    intro i x L
    by_cases h : n ≤ 1
    · rw [upF_one n i x L h]; exact ⟨Nat.le_refl _, by simp, fun h => h⟩
    · rcases hL : L.getLast? with _ | o
      · rw [upF_none n i x L h hL]; simp
      · have e := last_len hL
        by_cases hi : i < hfN n
        · rw [upF_left n i x L o h hL hi]
          obtain ⟨h1, h2, h3⟩ := ih (hfN n) (hfN_lt n h) i x L.dropLast
          refine ⟨by simp only []; omega, by simp only [List.length_append, List.length_singleton]; omega, fun hp => h3 (last_all hL hp).2⟩
        · rw [upF_right n i x L o h hL hi]
          obtain ⟨h1, h2, h3⟩ := ih (n - hfN n) (by have := hfN_pos n h; omega) (i - hfN n) x L.dropLast
          refine ⟨by simp only []; omega, by simp only [List.length_append, List.length_singleton]; omega, fun hp => h3 (last_all hL hp).2⟩
/-- of two proofs with one sum, and no clash, all is the same -/
theorem up_same (T : List (List UInt8)) (hT : ¬ clashL T) (n : Nat) : ∀ (i : Nat) (x y : List UInt8) (L M : List (List UInt8)), x.length = 32 → y.length = 32 → (∀ p ∈ L, p.length = 32) → (∀ p ∈ M, p.length = 32) →
    (upF n i x L).k = false → (upF n i x L).L = [] → (upF n i y M).k = false → (upF n i y M).L = [] → (∀ t ∈ (upF n i x L).N, t ∈ T) → (∀ t ∈ (upF n i y M).N, t ∈ T) → (upF n i x L).d = (upF n i y M).d → x = y ∧ L = M := by
  induction n using Nat.strongRecOn with
  | _ n ih =>
    intro i x y L M hx hy hL hM k1 l1 k2 l2 t1 t2 e
    by_cases h : n ≤ 1
    · rw [upF_one n i x L h] at l1 t1 e
      rw [upF_one n i y M h] at l2 t2 e
      simp only [] at l1 l2 e
      have := noclash hT (t1 _ (by simp)) (t2 _ (by simp)) e
      exact ⟨leafB_inj hx hy this, by rw [l1, l2]⟩
    · rcases gL : L.getLast? with _ | o
      · rw [upF_none n i x L h gL] at k1; cases k1
      rcases gM : M.getLast? with _ | o'
      · rw [upF_none n i y M h gM] at k2; cases k2
      obtain ⟨a1, a2⟩ := last_all gL hL
      obtain ⟨b1, b2⟩ := last_all gM hM
      by_cases hi : i < hfN n
      · rw [upF_left n i x L o h gL hi] at k1 l1 t1 e
        rw [upF_left n i y M o' h gM hi] at k2 l2 t2 e
        simp only [] at k1 l1 k2 l2 e
        have e2 := noclash hT (t1 _ (by simp)) (t2 _ (by simp)) e
        obtain ⟨e3, e4⟩ := nodeB_inj (upF_d32 _ _ _ _) a1 (upF_d32 _ _ _ _) b1 e2
        obtain ⟨r1, r2⟩ := ih _ (hfN_lt n h) i x y _ _ hx hy a2 b2 k1 l1 k2 l2 (fun t ht => t1 t (by simp [ht])) (fun t ht => t2 t (by simp [ht])) e3
        exact ⟨r1, by rw [last_some gL, last_some gM, r2, e4]⟩
      · rw [upF_right n i x L o h gL hi] at k1 l1 t1 e
        rw [upF_right n i y M o' h gM hi] at k2 l2 t2 e
        simp only [] at k1 l1 k2 l2 e
        have e2 := noclash hT (t1 _ (by simp)) (t2 _ (by simp)) e
        obtain ⟨e4, e3⟩ := nodeB_inj a1 (upF_d32 _ _ _ _) b1 (upF_d32 _ _ _ _) e2
        obtain ⟨r1, r2⟩ := ih _ (by have := hfN_pos n h; omega) (i - hfN n) x y _ _ hx hy a2 b2 k1 l1 k2 l2 (fun t ht => t1 t (by simp [ht])) (fun t ht => t2 t (by simp [ht])) e3
        exact ⟨r1, by rw [last_some gL, last_some gM, r2, e4]⟩
theorem rootF_split (l : List (List UInt8)) (h : ¬ l.length ≤ 1) : rootF l = shaB (nodeB (rootF (l.take (hfN l.length))) (rootF (l.drop (hfN l.length)))) := by
  rw [rootF, dif_neg (by omega), dif_neg (by omega)]; rfl
/-- a list's own path holds -/
theorem up_complete (l : List (List UInt8)) (i : Nat) (hi : i < l.length) : (upF l.length i (l.getD i []) (pathF l i)).d = rootF l ∧ (upF l.length i (l.getD i []) (pathF l i)).L = [] ∧ (upF l.length i (l.getD i []) (pathF l i)).k = false := by
  induction l, i using pathF.induct with
  | case1 l i h =>
    rw [pathF, dif_pos h, upF_one _ _ _ _ h]
    have hn : l.length = 1 := by omega
    have : i = 0 := by omega
    subst this
    refine ⟨?_, rfl, rfl⟩
    rw [rootF, dif_neg (by omega), dif_pos hn]; rfl
  | case2 l i h h1 ih =>
    rw [pathF, dif_neg h, if_pos h1]
    have hl : (l.take (hfN l.length)).length = hfN l.length := by rw [List.length_take]; have := hfN_lt _ h; omega
    obtain ⟨r1, r2, r3⟩ := ih (by omega)
    rw [hl] at r1 r2 r3
    have hx : (l.take (hfN l.length)).getD i [] = l.getD i [] := by simp [List.getD, List.getElem?_take, h1]
    rw [hx] at r1 r2 r3
    rw [upF_left _ _ _ _ (rootF (l.drop (hfN l.length))) h (by simp) h1]
    simp only [List.dropLast_concat]
    exact ⟨by rw [r1, rootF_split l h], r2, r3⟩
  | case3 l i h h1 ih =>
    rw [pathF, dif_neg h, if_neg h1]
    have hl : (l.drop (hfN l.length)).length = l.length - hfN l.length := by rw [List.length_drop]
    obtain ⟨r1, r2, r3⟩ := ih (by omega)
    rw [hl] at r1 r2 r3
    have hx : (l.drop (hfN l.length)).getD (i - hfN l.length) [] = l.getD i [] := by simp only [List.getD, List.getElem?_drop]; congr 2; omega
    rw [hx] at r1 r2 r3
    rw [upF_right _ _ _ _ (rootF (l.take (hfN l.length))) h (by simp) h1]
    simp only [List.dropLast_concat]
    exact ⟨by rw [r1, rootF_split l h], r2, r3⟩
structure BoR where
  x : List UInt8
  y : List UInt8
  L : List (List UInt8)
  N : List (List UInt8)
  k : Bool
/-- the sums of the first m, and of all n; what is left; what was hashed; did one lack -/
def boF (a : List UInt8) (m n : Nat) (own : Bool) (L : List (List UInt8)) : BoR :=
  if m = n ∧ own = true then ⟨a, a, L, [], false⟩
  else match L.getLast? with
  | none => ⟨dig0, dig0, [], [], true⟩
  | some o =>
    if h : m = n ∨ n ≤ 1 then ⟨o, o, L.dropLast, [], false⟩
    else if m ≤ hfN n then
      let r := boF a m (hfN n) own L.dropLast
      ⟨r.x, shaB (nodeB r.y o), r.L, r.N ++ [nodeB r.y o], r.k⟩
    else
      let r := boF a (m - hfN n) (n - hfN n) false L.dropLast
      ⟨shaB (nodeB o r.x), shaB (nodeB o r.y), r.L, r.N ++ [nodeB o r.x, nodeB o r.y], r.k⟩
termination_by n
decreasing_by
  · exact hfN_lt n (by omega)
  · have := hfN_pos n (by omega); omega
theorem boF_own (a : List UInt8) (n : Nat) (L : List (List UInt8)) : boF a n n true L = ⟨a, a, L, [], false⟩ := by rw [boF, if_pos ⟨rfl, rfl⟩]
theorem boF_none (a : List UInt8) (m n : Nat) (own : Bool) (L : List (List UInt8)) (h : ¬ (m = n ∧ own = true)) (hL : L.getLast? = none) : boF a m n own L = ⟨dig0, dig0, [], [], true⟩ := by rw [boF, if_neg h, hL]
theorem boF_all (a : List UInt8) (m n : Nat) (own : Bool) (L : List (List UInt8)) (o : List UInt8) (h : ¬ (m = n ∧ own = true)) (hL : L.getLast? = some o) (hn : m = n) : boF a m n own L = ⟨o, o, L.dropLast, [], false⟩ := by
  rw [boF, if_neg h, hL]; simp only [dif_pos (show m = n ∨ n ≤ 1 from Or.inl hn)]
theorem boF_left (a : List UInt8) (m n : Nat) (own : Bool) (L : List (List UInt8)) (o : List UInt8) (h1 : 1 ≤ m) (h2 : m < n) (hL : L.getLast? = some o) (hm : m ≤ hfN n) :
    boF a m n own L = ⟨(boF a m (hfN n) own L.dropLast).x, shaB (nodeB (boF a m (hfN n) own L.dropLast).y o), (boF a m (hfN n) own L.dropLast).L, (boF a m (hfN n) own L.dropLast).N ++ [nodeB (boF a m (hfN n) own L.dropLast).y o], (boF a m (hfN n) own L.dropLast).k⟩ := by
  rw [boF, if_neg (by omega), hL]; simp only [dif_neg (show ¬ (m = n ∨ n ≤ 1) by omega), if_pos hm]
theorem boF_right (a : List UInt8) (m n : Nat) (own : Bool) (L : List (List UInt8)) (o : List UInt8) (h1 : 1 ≤ m) (h2 : m < n) (hL : L.getLast? = some o) (hm : ¬ m ≤ hfN n) :
    boF a m n own L = ⟨shaB (nodeB o (boF a (m - hfN n) (n - hfN n) false L.dropLast).x), shaB (nodeB o (boF a (m - hfN n) (n - hfN n) false L.dropLast).y), (boF a (m - hfN n) (n - hfN n) false L.dropLast).L, (boF a (m - hfN n) (n - hfN n) false L.dropLast).N ++ [nodeB o (boF a (m - hfN n) (n - hfN n) false L.dropLast).x, nodeB o (boF a (m - hfN n) (n - hfN n) false L.dropLast).y], (boF a (m - hfN n) (n - hfN n) false L.dropLast).k⟩ := by
  rw [boF, if_neg (by omega), hL]; simp only [dif_neg (show ¬ (m = n ∨ n ≤ 1) by omega), if_neg hm]
/-- the five ways of 'both' -/
theorem boF_cases (a : List UInt8) (m n : Nat) (own : Bool) (L : List (List UInt8)) (h1 : 1 ≤ m) (h2 : m ≤ n) :
    (m = n ∧ own = true) ∨ (¬ (m = n ∧ own = true) ∧ L.getLast? = none) ∨ ∃ o, L.getLast? = some o ∧ ((¬ (m = n ∧ own = true) ∧ m = n) ∨ (m < n ∧ m ≤ hfN n) ∨ (m < n ∧ ¬ m ≤ hfN n)) := by
  by_cases h : m = n ∧ own = true
  · exact .inl h
  rcases hL : L.getLast? with _ | o
  · exact .inr (.inl ⟨h, rfl⟩)
  · refine .inr (.inr ⟨o, rfl, ?_⟩)
    by_cases e : m = n
    · exact .inl ⟨h, e⟩
    · by_cases g : m ≤ hfN n
      · exact .inr (.inl ⟨by omega, g⟩)
      · exact .inr (.inr ⟨by omega, g⟩)
theorem boF_32 (a : List UInt8) (ha : a.length = 32) (n : Nat) : ∀ (m : Nat) (own : Bool) (L : List (List UInt8)), 1 ≤ m → m ≤ n → (∀ p ∈ L, p.length = 32) →
    (boF a m n own L).x.length = 32 ∧ (boF a m n own L).y.length = 32 ∧ (boF a m n own L).L.length ≤ L.length ∧ (boF a m n own L).N.length ≤ 2 * L.length ∧ ∀ p ∈ (boF a m n own L).L, p.length = 32 := by
  induction n using Nat.strongRecOn with
  | _ n ih =>
    intro m own L h1 h2 hp
    rcases boF_cases a m n own L h1 h2 with ⟨rfl, rfl⟩ | ⟨h, hL⟩ | ⟨o, hL, ⟨h, rfl⟩ | ⟨h, g⟩ | ⟨h, g⟩⟩
    · rw [boF_own]; exact ⟨ha, ha, Nat.le_refl _, by simp, hp⟩
    · rw [boF_none a m n own L h hL]; exact ⟨dig0_length, dig0_length, by simp, by simp, by simp⟩
    · obtain ⟨a1, a2⟩ := last_all hL hp
      rw [boF_all a m m own L o h hL rfl]; exact ⟨a1, a1, by simp, by simp, a2⟩
    · have e := last_len hL
      obtain ⟨a1, a2⟩ := last_all hL hp
      obtain ⟨r1, r2, r3, r4, r5⟩ := ih (hfN n) (hfN_lt n (by omega)) m own L.dropLast h1 g a2
      rw [boF_left a m n own L o h1 h hL g]
      exact ⟨r1, shaB_length _, by simp only []; omega, by simp only [List.length_append, List.length_singleton]; omega, r5⟩
    · have e := last_len hL
      obtain ⟨a1, a2⟩ := last_all hL hp
      obtain ⟨r1, r2, r3, r4, r5⟩ := ih (n - hfN n) (by have := hfN_pos n (by omega); omega) (m - hfN n) false L.dropLast (by omega) (by omega) a2
      rw [boF_right a m n own L o h1 h hL g]
      exact ⟨shaB_length _, shaB_length _, by simp only []; omega, by simp only [List.length_append, List.length_cons, List.length_nil]; omega, r5⟩
theorem halfN_below (n m : Nat) (h2 : 2 ≤ n) (hb : n ≤ 4611686018427387904) (h : halfN n < m) (hm : m ≤ n) : halfN m = halfN n := by
  obtain ⟨_, _, n1, n2, n3⟩ := halfN_spec n h2 hb
  obtain ⟨_, _, m1, m2, m3⟩ := halfN_spec m (by omega) (by omega)
  have hm2 : m ≤ 2 * halfN n := by omega
  exact (halfN_uniq (j := Lib.bitLen (n - 1) - 1) (by omega) (by omega) h hm2).symm
theorem hfN_uniq (n m : Nat) (h2 : 2 ≤ n) (hb : n ≤ 4611686018427387904) (h : hfN n < m) (hm : m ≤ n) : hfN m = hfN n := by
  have e := hfN_eq n h2 hb
  have := hfN_pos n (by omega)
  rw [hfN_eq m (by omega) (by omega), e]
  rw [e] at h
  exact halfN_below n m h2 hb h hm
/-- a list's own growth holds -/
theorem bo_complete (l : List (List UInt8)) (m : Nat) (own : Bool) : ∀ (a : List UInt8), 1 ≤ m → m ≤ l.length → l.length ≤ 4611686018427387904 → (own = true → a = rootF (l.take m)) →
    (boF a m l.length own (restF l m own)).x = rootF (l.take m) ∧ (boF a m l.length own (restF l m own)).y = rootF l ∧ (boF a m l.length own (restF l m own)).L = [] ∧ (boF a m l.length own (restF l m own)).k = false := by
  induction l, m, own using restF.induct with
  | case1 l m h =>
    intro a h1 h2 hb ha
    obtain rfl : m = l.length := by omega
    rw [restF, dif_pos h, if_pos rfl, boF_own, ha rfl, List.take_length]
    exact ⟨rfl, rfl, rfl, rfl⟩
  | case2 l m own h ho =>
    intro a h1 h2 hb ha
    obtain rfl : m = l.length := by omega
    rw [restF, dif_pos h, if_neg ho, boF_all a _ _ own _ (rootF l) (by simpa using ho) (by simp) rfl, List.take_length]
    exact ⟨rfl, rfl, by simp, rfl⟩
  | case3 l m own h h1 ih =>
    intro a g1 g2 hb ha
    have hl : (l.take (hfN l.length)).length = hfN l.length := by rw [List.length_take]; have := hfN_lt l.length (by omega); omega
    have et : (l.take (hfN l.length)).take m = l.take m := by rw [List.take_take]; congr 1; omega
    obtain ⟨r1, r2, r3, r4⟩ := ih a g1 (by omega) (by rw [hl]; have := hfN_lt l.length (by omega); omega) (by rw [et]; exact ha)
    rw [hl, et] at r1
    rw [hl] at r2 r3 r4
    rw [restF, dif_neg h, if_pos h1, boF_left a m l.length own _ (rootF (l.drop (hfN l.length))) g1 (by omega) (by simp) h1]
    simp only [List.dropLast_concat]
    exact ⟨r1, by rw [r2, rootF_split l (by omega)], r3, r4⟩
  | case4 l m own h h1 ih =>
    intro a g1 g2 hb ha
    have hl : (l.drop (hfN l.length)).length = l.length - hfN l.length := by rw [List.length_drop]
    obtain ⟨r1, r2, r3, r4⟩ := ih a (by omega) (by omega) (by omega) (by intro h; cases h)
    rw [hl] at r1 r2 r3 r4
    have hu := hfN_uniq l.length m (by omega) hb (by omega) g2
    have hpos := hfN_pos l.length (by omega)
    rw [restF, dif_neg h, if_neg h1, boF_right a m l.length own _ (rootF (l.take (hfN l.length))) g1 (by omega) (by simp) h1]
    simp only [List.dropLast_concat]
    have em : (l.take m).length = m := by rw [List.length_take]; omega
    have e2 : rootF (l.take m) = shaB (nodeB (rootF (l.take (hfN l.length))) (rootF ((l.drop (hfN l.length)).take (m - hfN l.length)))) := by
      rw [rootF_split (l.take m) (by omega), em, hu, List.take_take, List.drop_take]
      rw [show min (hfN l.length) m = hfN l.length by omega]
    exact ⟨by rw [r1, e2], by rw [r2, rootF_split l (by omega)], r3, r4⟩
/-- what a growth and two paths bind -/
theorem bind_law (T : List (List UInt8)) (hT : ¬ clashL T) (a x y : List UInt8) (ha : a.length = 32) (hx : x.length = 32) (hy : y.length = 32) (n : Nat) : ∀ (m i : Nat) (own : Bool) (P Q G : List (List UInt8)),
    1 ≤ m → m ≤ n → n ≤ 4611686018427387904 → i < m → (∀ p ∈ P, p.length = 32) → (∀ p ∈ Q, p.length = 32) → (∀ p ∈ G, p.length = 32) →
    (upF m i x P).k = false → (upF m i x P).L = [] → (upF n i y Q).k = false → (upF n i y Q).L = [] → (boF a m n own G).k = false → (boF a m n own G).L = [] →
    (∀ t ∈ (upF m i x P).N, t ∈ T) → (∀ t ∈ (upF n i y Q).N, t ∈ T) → (∀ t ∈ (boF a m n own G).N, t ∈ T) →
    (upF m i x P).d = (boF a m n own G).x → (upF n i y Q).d = (boF a m n own G).y → x = y := by
  induction n using Nat.strongRecOn with
  | _ n ih =>
    intro m i own P Q G h1 h2 hb hi hP hQ hG kP lP kQ lQ kG lG tP tQ tG eX eY
    rcases boF_cases a m n own G h1 h2 with ⟨rfl, rfl⟩ | ⟨h, hL⟩ | ⟨o, hL, ⟨h, rfl⟩ | ⟨h, g⟩ | ⟨h, g⟩⟩
    · rw [boF_own] at eX eY
      exact (up_same T hT m i x y P Q hx hy hP hQ kP lP kQ lQ tP tQ (eX.trans eY.symm)).1
    · rw [boF_none a m n own G h hL] at kG; cases kG
    · rw [boF_all a m m own G o h hL rfl] at eX eY
      exact (up_same T hT m i x y P Q hx hy hP hQ kP lP kQ lQ tP tQ (eX.trans eY.symm)).1
    · obtain ⟨o1, o2⟩ := last_all hL hG
      obtain ⟨r1, r2, _, _, _⟩ := boF_32 a ha (hfN n) m own G.dropLast h1 g o2
      rw [boF_left a m n own G o h1 h hL g] at kG lG tG eX eY
      rcases gQ : Q.getLast? with _ | q
      · rw [upF_none n i y Q (by omega) gQ] at kQ; cases kQ
      obtain ⟨q1, q2⟩ := last_all gQ hQ
      rw [upF_left n i y Q q (by omega) gQ (by omega)] at kQ lQ tQ eY
      simp only [] at kG lG eX eY kQ lQ
      have e2 := noclash hT (tQ _ (by simp)) (tG _ (by simp)) eY
      obtain ⟨e3, e4⟩ := nodeB_inj (upF_d32 _ _ _ _) q1 r2 o1 e2
      exact ih (hfN n) (hfN_lt n (by omega)) m i own P Q.dropLast G.dropLast h1 g (by have := hfN_lt n (by omega); omega) hi hP q2 o2 kP lP kQ lQ kG lG tP (fun t ht => tQ t (by simp [ht])) (fun t ht => tG t (by simp [ht])) eX e3
    · obtain ⟨o1, o2⟩ := last_all hL hG
      have hpos := hfN_pos n (by omega)
      obtain ⟨r1, r2, _, _, _⟩ := boF_32 a ha (n - hfN n) (m - hfN n) false G.dropLast (by omega) (by omega) o2
      rw [boF_right a m n own G o h1 h hL g] at kG lG tG eX eY
      have hu := hfN_uniq n m (by omega) hb (by omega) h2
      rcases gQ : Q.getLast? with _ | q
      · rw [upF_none n i y Q (by omega) gQ] at kQ; cases kQ
      rcases gP : P.getLast? with _ | p
      · rw [upF_none m i x P (by omega) gP] at kP; cases kP
      obtain ⟨q1, q2⟩ := last_all gQ hQ
      obtain ⟨p1, p2⟩ := last_all gP hP
      by_cases hik : i < hfN n
      · rw [upF_left n i y Q q (by omega) gQ hik] at kQ lQ tQ eY
        rw [upF_left m i x P p (by omega) gP (by rw [hu]; exact hik), hu] at kP lP tP eX
        simp only [] at kG lG eX eY kQ lQ kP lP
        have e2 := noclash hT (tQ _ (by simp)) (tG _ (by simp)) eY
        have f2 := noclash hT (tP _ (by simp)) (tG _ (by simp)) eX
        obtain ⟨e3, e4⟩ := nodeB_inj (upF_d32 _ _ _ _) q1 o1 r2 e2
        obtain ⟨f3, f4⟩ := nodeB_inj (upF_d32 _ _ _ _) p1 o1 r1 f2
        exact (up_same T hT (hfN n) i x y P.dropLast Q.dropLast hx hy p2 q2 kP lP kQ lQ (fun t ht => tP t (by simp [ht])) (fun t ht => tQ t (by simp [ht])) (f3.trans e3.symm)).1
      · rw [upF_right n i y Q q (by omega) gQ hik] at kQ lQ tQ eY
        rw [upF_right m i x P p (by omega) gP (by rw [hu]; exact hik), hu] at kP lP tP eX
        simp only [] at kG lG eX eY kQ lQ kP lP
        have e2 := noclash hT (tQ _ (by simp)) (tG _ (by simp)) eY
        have f2 := noclash hT (tP _ (by simp)) (tG _ (by simp)) eX
        obtain ⟨e4, e3⟩ := nodeB_inj q1 (upF_d32 _ _ _ _) o1 r2 e2
        obtain ⟨f4, f3⟩ := nodeB_inj p1 (upF_d32 _ _ _ _) o1 r1 f2
        exact ih (n - hfN n) (by omega) (m - hfN n) (i - hfN n) false P.dropLast Q.dropLast G.dropLast (by omega) (by omega) (by omega) (by omega) p2 q2 o2 kP lP kQ lQ kG lG (fun t ht => tP t (by simp [ht])) (fun t ht => tQ t (by simp [ht])) (fun t ht => tG t (by simp [ht])) f3 e3
theorem hfN_pow (n k : Nat) (h2 : 2 ≤ n) (hb : n ≤ 4611686018427387904) (h : n ≤ 2 ^ (k + 1)) : hfN n ≤ 2 ^ k ∧ n - hfN n ≤ 2 ^ k := by
  obtain ⟨_, _, n1, n2, n3⟩ := halfN_spec n h2 hb
  rw [hfN_eq n h2 hb]
  have : halfN n ≤ 2 ^ k := by
    have e : halfN n = 2 ^ (Lib.bitLen (n - 1) - 1) := rfl
    rw [e] at n2 n3 ⊢
    generalize Lib.bitLen (n - 1) - 1 = a at *
    rcases Nat.lt_or_ge k a with g | g
    · have := Nat.pow_le_pow_right (n := 2) (by omega) (show k + 1 ≤ a from g); omega
    · exact Nat.pow_le_pow_right (by omega) g
  omega
theorem pathF_log (l : List (List UInt8)) (i : Nat) : ∀ k, l.length ≤ 2 ^ k → k ≤ 60 → (pathF l i).length ≤ k := by
  induction l, i using pathF.induct with
  | case1 l i h => intro k _ _; rw [pathF, dif_pos h]; simp
  | case2 l i h h1 ih =>
    intro k hk h60
    cases k with
    | zero => omega
    | succ k =>
      have hb : 2 ^ (k + 1) ≤ 2 ^ 60 := Nat.pow_le_pow_right (by omega) h60
      obtain ⟨r1, r2⟩ := hfN_pow l.length k (by omega) (by omega) hk
      rw [pathF, dif_neg h, if_pos h1]
      have := ih k (by rw [List.length_take]; omega) (by omega)
      simp; omega
  | case3 l i h h1 ih =>
    intro k hk h60
    cases k with
    | zero => omega
    | succ k =>
      have hb : 2 ^ (k + 1) ≤ 2 ^ 60 := Nat.pow_le_pow_right (by omega) h60
      obtain ⟨r1, r2⟩ := hfN_pow l.length k (by omega) (by omega) hk
      rw [pathF, dif_neg h, if_neg h1]
      have := ih k (by rw [List.length_drop]; omega) (by omega)
      simp; omega
theorem restF_log (l : List (List UInt8)) (m : Nat) (own : Bool) : ∀ k, l.length ≤ 2 ^ k → k ≤ 60 → (restF l m own).length ≤ k + 1 := by
  induction l, m, own using restF.induct with
  | case1 l m h => intro k _ _; rw [restF, dif_pos h]; simp
  | case2 l m own h ho => intro k _ _; rw [restF, dif_pos h, if_neg ho]; simp
  | case3 l m own h h1 ih =>
    intro k hk h60
    cases k with
    | zero => omega
    | succ k =>
      have hb : 2 ^ (k + 1) ≤ 2 ^ 60 := Nat.pow_le_pow_right (by omega) h60
      obtain ⟨r1, r2⟩ := hfN_pow l.length k (by omega) (by omega) hk
      rw [restF, dif_neg h, if_pos h1]
      have := ih k (by rw [List.length_take]; omega) (by omega)
      simp; omega
  | case4 l m own h h1 ih =>
    intro k hk h60
    cases k with
    | zero => omega
    | succ k =>
      have hb : 2 ^ (k + 1) ≤ 2 ^ 60 := Nat.pow_le_pow_right (by omega) h60
      obtain ⟨r1, r2⟩ := hfN_pow l.length k (by omega) (by omega) hk
      rw [restF, dif_neg h, if_neg h1]
      have := ih k (by rw [List.length_drop]; omega) (by omega)
      simp; omega
end Go.Proofs.Ytmgbimdebhhckaa
