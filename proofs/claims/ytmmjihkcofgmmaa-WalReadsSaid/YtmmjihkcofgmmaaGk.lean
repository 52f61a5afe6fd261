/- The texts WalW WalY WalZ WalAA of this seat, one behind another; what each says stands at its head. -/
import Derived.Test.YtmmjihkcofgmmaaGj
import Derived.Lib.SlBytesConst

/- The log, in plain Lean: what is written is what is read. -/
namespace Go.Proofs.Ytmmjihkcofgmmaa
open Go.RowKit
set_option linter.unusedVariables false

/-- how many sectors the records have -/
def kT (T : List (List UInt8)) : Nat := (T.map fun t => needN t.length).sum
theorem kT_snoc (T : List (List UInt8)) (t : List UInt8) : kT (T ++ [t]) = kT T + needN t.length := by simp [kT]
theorem kT_ge (T : List (List UInt8)) (h : ∀ t ∈ T, t.length ≤ 100000) : T.length ≤ kT T := by
  induction T with
  | nil => exact Nat.le_refl _
  | cons t T ih =>
    have h1 := needN_pos t.length (h t (by simp))
    have h2 := ih (fun u hu => h u (by simp [hu]))
    simp only [kT, List.map_cons, List.sum_cons, List.length_cons] at h2 ⊢
    omega
theorem allB_pre (B : List (List UInt8)) : ∀ A, ∃ r, allB (A ++ B) = allB A ++ r := by
  induction B with
  | nil => exact fun A => ⟨[], by simp⟩
  | cons b B ih =>
    intro A
    obtain ⟨r, hr⟩ := ih (A ++ [b])
    refine ⟨recB (lastR A) A.length b ++ r, ?_⟩
    rw [show A ++ b :: B = (A ++ [b]) ++ B by simp, hr, allB_snoc, List.append_assoc]
theorem allB_length (T : List (List UInt8)) (h : ∀ t ∈ T, t.length ≤ 100000) : (allB T).length = 64 * kT T := by
  have : ∀ B A : List (List UInt8), (∀ t ∈ B, t.length ≤ 100000) → (allB A).length = 64 * kT A → (allB (A ++ B)).length = 64 * kT (A ++ B) := by
    intro B
    induction B with
    | nil => intro A _ h; simpa using h
    | cons b B ih =>
      intro A hB hA
      rw [show A ++ b :: B = (A ++ [b]) ++ B by simp]
      refine ih (A ++ [b]) (fun t ht => hB t (by simp [ht])) ?_
      rw [allB_snoc, List.length_append, hA, recB_length _ _ _ (hB b (by simp)), kT_snoc]
      omega
  simpa using this T [] h (by rfl)
theorem cnt_countB (m : Nat) (h : m ≤ 16777215) : cnt (UInt8.ofNat (m / 65536)) (UInt8.ofNat (m / 256)) (UInt8.ofNat m) = m := by
  unfold cnt
  simp only [UInt8.toNat_ofNat']
  omega
theorem firstB_form (n : Nat) (b sum : List UInt8) : firstB n b sum = [87, UInt8.ofNat (b.length / 65536), UInt8.ofNat (b.length / 256), UInt8.ofNat b.length] ++ numB (n : Int) ++ filledB (b.take 19) 19 ++ sum ++ [1] := by
  simp [firstB, headR, countB]
theorem firstB_63 (n : Nat) (b sum : List UInt8) (h : sum.length = 32) : (firstB n b sum).getD 63 0 = 1 := by
  rw [firstB_form, List.getD_eq_getElem?_getD, List.getElem?_append_right (by simp [numB_length, filledB_length (b.take 19) 19 (by rw [List.length_take]; omega), h])]
  simp [numB_length, filledB_length (b.take 19) 19 (by rw [List.length_take]; omega), h]
theorem firstB_cnt (n : Nat) (b sum : List UInt8) (h : b.length ≤ 100000) : cnt ((firstB n b sum).getD 1 0) ((firstB n b sum).getD 2 0) ((firstB n b sum).getD 3 0) = b.length := by
  have : firstB n b sum = 87 :: UInt8.ofNat (b.length / 65536) :: UInt8.ofNat (b.length / 256) :: UInt8.ofNat b.length :: (numB (n : Int) ++ filledB (b.take 19) 19 ++ sum ++ [1]) := by rw [firstB_form]; simp
  rw [this]
  exact cnt_countB b.length (by omega)
theorem firstB_text (n : Nat) (b sum : List UInt8) : ((firstB n b sum).drop 12).take 19 = filledB (b.take 19) 19 := by
  rw [firstB_form]
  have h1 : (([87, UInt8.ofNat (b.length / 65536), UInt8.ofNat (b.length / 256), UInt8.ofNat b.length] : List UInt8) ++ numB (n : Int)).length = 12 := by simp [numB_length]
  rw [List.append_assoc, List.append_assoc, List.append_assoc, ← List.append_assoc, List.drop_left' h1, List.take_left' (filledB_length (b.take 19) 19 (by rw [List.length_take]; omega))]
theorem text_back (b : List UInt8) : (filledB (b.take 19) 19 ++ pad64 (b.drop 19)).take b.length = b := by
  unfold filledB pad64
  rcases Nat.lt_or_ge b.length 19 with h | h
  · rw [List.take_of_length_le (by omega : b.length ≤ 19), List.append_assoc, List.take_left]
  · have h1 : (b.take 19).length = 19 := by rw [List.length_take]; omega
    rw [h1, Nat.sub_self, List.replicate_zero, List.append_nil, ← List.append_assoc, List.take_append_drop, List.take_left]
/-- a record that is there is the next one -/
theorem nextR_rec (n k : Nat) (P rest : List UInt8) (T : List (List UInt8)) (t : List UInt8) (hP : P.length = 64 * k) (ht : t.length ≤ 100000) (hn : (P ++ recB (lastR T) T.length t ++ rest).length = 64 * n) :
    nextR n (P ++ recB (lastR T) T.length t ++ rest) T k = (true, 0, T ++ [t], k + needN t.length) := by
  have hR := recB_length (lastR T) T.length t ht
  have hpos := needN_pos t.length ht
  rw [List.length_append, List.length_append, hP, hR] at hn
  obtain ⟨sum, hs⟩ : ∃ sum, sumR (lastR T) T.length t = sum := ⟨_, rfl⟩
  have hsl : sum.length = 32 := hs ▸ sumR_length _ _ _
  have hF := firstB_length T.length t sum hsl
  have hsec : secAt (P ++ recB (lastR T) T.length t ++ rest) k = firstB T.length t sum := by
    unfold secAt recB
    rw [hs, List.append_assoc, List.drop_left' hP, List.append_assoc, List.take_left' hF]
  have hpl : (pad64 (t.drop 19)).length = 64 * (needN t.length - 1) := by
    rw [pad64_length, List.length_drop, needN_le _ ht]
    omega
  have hcn : cntAt (P ++ recB (lastR T) T.length t ++ rest) k = t.length := by unfold cntAt; rw [hsec]; exact firstB_cnt _ _ _ ht
  have htx : textAt (P ++ recB (lastR T) T.length t ++ rest) k = t := by
    unfold textAt bodyAt
    rw [hcn, hsec, firstB_text]
    have : ((P ++ recB (lastR T) T.length t ++ rest).drop (64 * (k + 1))).take (64 * (needN t.length - 1)) = pad64 (t.drop 19) := by
      unfold recB
      rw [hs, show 64 * (k + 1) = (P ++ firstB T.length t sum).length by rw [List.length_append, hP, hF]; omega, ← List.append_assoc, List.append_assoc, List.drop_left, List.take_left' hpl]
    rw [this]
    exact text_back t
  unfold nextR
  rw [if_neg (by omega), hsec, firstB_63 _ _ _ hsl, if_neg (by simp), hcn, if_neg (by omega), if_neg (by omega), htx, hs, if_neg (by simp)]
theorem openF_all (n : Nat) (B : List (List UInt8)) : ∀ (A : List (List UInt8)) (f : Nat) (bs rest : List UInt8), bs.length = 64 * n → bs = allB (A ++ B) ++ rest → (∀ t ∈ A ++ B, t.length ≤ 100000) → B.length < f →
    (kT (A ++ B) = n ∨ (secAt bs (kT (A ++ B))).getD 63 0 ≠ 1) → openF n bs f (A, kT A) = some (A ++ B, kT (A ++ B)) := by
  induction B with
  | nil =>
    intro A f bs rest hn hbs hT hf hst
    rw [List.append_nil] at hst ⊢
    obtain ⟨f', rfl⟩ : ∃ f', f = f' + 1 := ⟨f - 1, by simp at hf; omega⟩
    have hN : nextR n bs A (kT A) = (false, 0, A, kT A) := by
      unfold nextR
      by_cases h : kT A = n
      · rw [if_pos h]
      · rw [if_neg h, if_pos (hst.resolve_left h)]
    show (if (nextR n bs A (kT A)).1 then openF n bs f' (nextR n bs A (kT A)).2.2 else if (nextR n bs A (kT A)).2.1 = 0 then some (A, kT A) else none) = _
    rw [hN]
    rfl
  | cons b B ih =>
    intro A f bs rest hn hbs hT hf hst
    obtain ⟨f', rfl⟩ : ∃ f', f = f' + 1 := ⟨f - 1, by simp at hf; omega⟩
    have e1 : A ++ b :: B = (A ++ [b]) ++ B := by simp
    obtain ⟨r, hr⟩ := allB_pre B (A ++ [b])
    have hb : b.length ≤ 100000 := hT b (by simp)
    have e2 : bs = allB A ++ recB (lastR A) A.length b ++ (r ++ rest) := by rw [hbs, e1, hr, allB_snoc]; simp
    have hN : nextR n bs A (kT A) = (true, 0, A ++ [b], kT A + needN b.length) := by
      rw [e2]
      exact nextR_rec n (kT A) (allB A) (r ++ rest) A b (allB_length A (fun t ht => hT t (by simp [ht]))) hb (by rw [← e2]; exact hn)
    show (if (nextR n bs A (kT A)).1 then openF n bs f' (nextR n bs A (kT A)).2.2 else if (nextR n bs A (kT A)).2.1 = 0 then some (A, kT A) else none) = _
    rw [hN]
    simp only [if_true]
    rw [← kT_snoc, e1]
    refine ih (A ++ [b]) f' bs rest hn (by rw [← e1]; exact hbs) (by rw [← e1]; exact hT) (by simp at hf; omega) (by rw [← e1]; exact hst)
theorem openR_all (n : Nat) (bs rest : List UInt8) (T : List (List UInt8)) (hn : bs.length = 64 * n) (hbs : bs = allB T ++ rest) (hT : ∀ t ∈ T, t.length ≤ 100000) (hst : kT T = n ∨ (secAt bs (kT T)).getD 63 0 ≠ 1) : openR n bs = some (T, kT T) := by
  have h1 := kT_ge T hT
  have h2 := allB_length T hT
  have h3 : kT T ≤ n := by
    rw [hbs, List.length_append, h2] at hn
    omega
  exact openF_all n T [] (n + 1) bs rest hn hbs hT (by omega) hst
end Go.Proofs.Ytmmjihkcofgmmaa

/- The log, in plain Lean: what writes leave, also where the disk dies. -/
namespace Go.Proofs.Ytmmjihkcofgmmaa
open Go.RowKit
set_option linter.unusedVariables false

theorem splice_get (L : List UInt8) (off : Nat) (cs : List UInt8) (h : off + cs.length ≤ L.length) (q : Nat) : (splice L off cs)[q]? = if q < off then L[q]? else if q < off + cs.length then cs[q - off]? else L[q]? := by
  unfold splice
  have h1 : (L.take off).length = off := by rw [List.length_take]; omega
  by_cases hq : q < off
  · rw [if_pos hq, List.getElem?_append_left (by omega), List.getElem?_take_of_lt hq]
  · rw [if_neg hq, List.getElem?_append_right (by omega), h1]
    by_cases hq2 : q < off + cs.length
    · rw [if_pos hq2, List.getElem?_append_left (by omega)]
    · rw [if_neg hq2, List.getElem?_append_right (by omega), List.getElem?_drop]
      congr 1
      omega
theorem secAt_get (bs : List UInt8) (k q : Nat) : (secAt bs k)[q]? = if q < 64 then bs[64 * k + q]? else none := by
  unfold secAt
  rw [List.getElem?_take]
  split
  · rw [List.getElem?_drop]
  · rfl
theorem secAt_splice {bs c : List UInt8} {n i : Nat} (hn : bs.length = 64 * n) (hi : i < n) (hc : c.length ≤ 64) (j : Nat) : secAt (splice bs (i * 64) c) j = if j = i then c ++ (secAt bs i).drop c.length else secAt bs j := by
  apply List.ext_getElem?
  intro q
  rw [secAt_get]
  by_cases hj : j = i
  · subst hj
    rw [if_pos rfl]
    by_cases hq : q < 64
    · rw [if_pos hq, splice_get _ _ _ (by omega), if_neg (by omega)]
      by_cases hq2 : q < c.length
      · rw [if_pos (by omega), List.getElem?_append_left hq2]
        congr 1
        omega
      · rw [if_neg (by omega), List.getElem?_append_right (by omega), List.getElem?_drop, secAt_get, if_pos (by omega)]
        congr 1
        omega
    · rw [if_neg hq, List.getElem?_append_right (by omega), List.getElem?_drop, secAt_get, if_neg (by omega)]
  · rw [if_neg hj, secAt_get]
    by_cases hq : q < 64
    · rw [if_pos hq, if_pos hq, splice_get _ _ _ (by omega)]
      rcases Nat.lt_or_ge j i with h | h
      · rw [if_pos (by omega)]
      · rw [if_neg (by omega), if_neg (by omega)]
    · rw [if_neg hq, if_neg hq]
theorem secAt_whole {bs c : List UInt8} {n i : Nat} (hn : bs.length = 64 * n) (hi : i < n) (hc : c.length = 64) (j : Nat) : secAt (splice bs (i * 64) c) j = if j = i then c else secAt bs j := by
  rw [secAt_splice hn hi (by omega)]
  split
  · rw [List.drop_of_length_le (by rw [secAt_length hn hi]; omega), List.append_nil]
  · rfl
theorem wr_go {s : Dk.DS} {n i : Nat} {b : List UInt8} (hd : s.dead = false) (hi : i < n) (hb : b.length = 64) (hf : s.fuse ≠ 0) :
    s.wr n (i : Int) b = ({ bs := splice s.bs (i * 64) b, dead := false, fuse := if 0 < s.fuse then s.fuse - 1 else s.fuse, torn := s.torn, writes := s.writes + 1 }, 0) := by
  unfold Dk.DS.wr Dk.DS.write
  rw [hd, if_neg (by simp), if_neg (by omega), if_neg (by omega), if_neg hf, Int.toNat_natCast]
theorem wr_die {s : Dk.DS} {n i : Nat} {b : List UInt8} (hd : s.dead = false) (hi : i < n) (hb : b.length = 64) (hf : s.fuse = 0) :
    s.wr n (i : Int) b = ({ bs := splice s.bs (i * 64) (b.take s.torn), dead := true, fuse := -1, torn := s.torn, writes := s.writes + 1 }, 30) := by
  unfold Dk.DS.wr Dk.DS.write
  rw [hd, if_neg (by simp), if_neg (by omega), if_neg (by omega), if_pos hf, Int.toNat_natCast]
theorem splice_len {bs c : List UInt8} {n i : Nat} (hn : bs.length = 64 * n) (hi : i < n) (hc : c.length ≤ 64) : (splice bs (i * 64) c).length = 64 * n := by
  rw [length_splice _ _ _ (by omega), hn]
/-- what writes of a record leave: all of it, or nothing that is read -/
structure WOutc (n k N d : Nat) (s : Dk.DS) (r : Dk.DS × Int) (full : Nat → List UInt8) : Prop where
  len : r.1.bs.length = 64 * n
  torn : r.1.torn = s.torn
  w1 : s.writes ≤ r.1.writes
  w2 : r.1.writes ≤ s.writes + d
  fuse : s.fuse = -1 → r.2 = 0 ∧ r.1.fuse = -1
  enough : (d : Int) ≤ s.fuse → r.2 = 0
  how : (r.2 = 0 ∧ r.1.dead = false ∧ ∀ j, secAt r.1.bs j = full j) ∨
    (r.2 = 30 ∧ r.1.dead = true ∧ ((∀ j, secAt r.1.bs j = full j) ∨ ((∀ j, (j < k ∨ k + N < j) → secAt r.1.bs j = secAt s.bs j) ∧ (secAt r.1.bs k).getD 63 0 = (secAt s.bs k).getD 63 0)))
theorem getD_drop {c : List UInt8} {l : List UInt8} {q : Nat} (h : c.length ≤ q) : (c ++ l.drop c.length).getD q 0 = l.getD q 0 := by
  rw [List.getD_eq_getElem?_getD, List.getD_eq_getElem?_getD, List.getElem?_append_right h, List.getElem?_drop]
  congr 2
  omega
theorem wr_rest (n k : Nat) (ST : List (List UInt8)) (hN : k + ST.length ≤ n) (h64 : ∀ t ∈ ST, t.length = 64) (h1 : 1 ≤ ST.length) : ∀ (d i : Nat) (s : Dk.DS), ST.length - i + 1 = d → 1 ≤ i → i ≤ ST.length → s.dead = false → s.bs.length = 64 * n → s.torn ≤ 64 → -1 ≤ s.fuse →
    WOutc n k ST.length d s (wrAll n s (restW k ST i)) (fun j => if j = k then ST.getD 0 [] else if k + i ≤ j ∧ j < k + ST.length then ST.getD (j - k) [] else secAt s.bs j) := by
  intro d
  induction d with
  | zero => intro i s hd; omega
  | succ d ih =>
    intro i s hdi hi1 hiN hd hn ht hfu
    obtain ⟨t0, ht0⟩ : ∃ t, ST[0]? = some t := ⟨_, List.getElem?_eq_getElem (by omega)⟩
    have hl0 := h64 t0 (List.mem_of_getElem? ht0)
    have hg0 : ST.getD 0 [] = t0 := by rw [List.getD_eq_getElem?_getD, ht0]; rfl
    rcases Nat.lt_or_ge i ST.length with hlt | hge
    · obtain ⟨t, hti⟩ : ∃ t, ST[i]? = some t := ⟨_, List.getElem?_eq_getElem hlt⟩
      have hl := h64 t (List.mem_of_getElem? hti)
      rw [restW_step hti]
      by_cases hf : s.fuse = 0
      · have hw := wr_die (n := n) (i := k + i) (b := t) hd (by omega) hl hf
        rw [wrAll_bad hw (by omega)]
        have hc : (t.take s.torn).length ≤ 64 := by rw [List.length_take]; omega
        refine ⟨splice_len hn (by omega) hc, rfl, Nat.le_succ _, by simp only; omega, fun h => by omega, fun h => by omega, .inr ⟨rfl, rfl, .inr ⟨fun j hj => ?_, ?_⟩⟩⟩
        · rw [secAt_splice hn (by omega) hc, if_neg (by omega)]
        · rw [secAt_splice hn (by omega) hc, if_neg (by omega)]
      · have hw := wr_go (n := n) (i := k + i) (b := t) hd (by omega) hl hf
        rw [wrAll_ok hw]
        have hI := ih (i + 1) { bs := splice s.bs ((k + i) * 64) t, dead := false, fuse := if 0 < s.fuse then s.fuse - 1 else s.fuse, torn := s.torn, writes := s.writes + 1 } (by omega) (by omega) (by omega) rfl (splice_len hn (by omega) (by omega)) ht (by simp only; split <;> omega)
        have hsec : ∀ j, secAt (splice s.bs ((k + i) * 64) t) j = if j = k + i then t else secAt s.bs j := secAt_whole hn (by omega) hl
        refine ⟨hI.len, hI.torn, Nat.le_trans (Nat.le_succ _) hI.w1, by have := hI.w2; simp only at this; omega, fun h => hI.fuse (by simp only; rw [if_neg (by omega)]; exact h), fun h => hI.enough (by simp only; rw [if_pos (by omega)]; omega), ?_⟩
        have hfull : ∀ j, (if j = k then ST.getD 0 [] else if k + (i + 1) ≤ j ∧ j < k + ST.length then ST.getD (j - k) [] else secAt (splice s.bs ((k + i) * 64) t) j) = (if j = k then ST.getD 0 [] else if k + i ≤ j ∧ j < k + ST.length then ST.getD (j - k) [] else secAt s.bs j) := fun j => by
          rw [hsec]
          by_cases hj : j = k
          · rw [if_pos hj, if_pos hj]
          · rw [if_neg hj, if_neg hj]
            by_cases hj2 : j = k + i
            · subst hj2
              rw [if_neg (by omega), if_pos rfl, if_pos (by omega), show k + i - k = i by omega, List.getD_eq_getElem?_getD, hti]
              rfl
            · rw [if_neg hj2]
              by_cases hj3 : k + (i + 1) ≤ j ∧ j < k + ST.length
              · rw [if_pos hj3, if_pos (by omega)]
              · rw [if_neg hj3, if_neg (by omega)]
        rcases hI.how with ⟨a1, a2, a3⟩ | ⟨a1, a2, a3⟩
        · exact .inl ⟨a1, a2, fun j => (a3 j).trans (hfull j)⟩
        · refine .inr ⟨a1, a2, ?_⟩
          rcases a3 with a3 | ⟨a3, a4⟩
          · exact .inl fun j => (a3 j).trans (hfull j)
          · refine .inr ⟨fun j hj => ?_, ?_⟩
            · rw [a3 j hj, hsec, if_neg (by omega)]
            · rw [a4, hsec, if_neg (by omega)]
    · obtain rfl : i = ST.length := by omega
      obtain rfl : d = 0 := by omega
      rw [restW_end ht0, wrAll_one]
      have hfull : ∀ j, (if j = k then ST.getD 0 [] else if k + ST.length ≤ j ∧ j < k + ST.length then ST.getD (j - k) [] else secAt s.bs j) = if j = k then t0 else secAt s.bs j := fun j => by
        rw [hg0]
        by_cases hj : j = k
        · rw [if_pos hj, if_pos hj]
        · rw [if_neg hj, if_neg hj, if_neg (by omega)]
      by_cases hf : s.fuse = 0
      · have hw := wr_die (n := n) (i := k) (b := t0) hd (by omega) hl0 hf
        rw [hw]
        have hc : (t0.take s.torn).length ≤ 64 := by rw [List.length_take]; omega
        refine ⟨splice_len hn (by omega) hc, rfl, Nat.le_succ _, by simp only; omega, fun h => by omega, fun h => by omega, .inr ⟨rfl, rfl, ?_⟩⟩
        by_cases h64t : s.torn = 64
        · refine .inl fun j => ?_
          rw [hfull, h64t, List.take_of_length_le (by omega)]
          exact secAt_whole hn (by omega) hl0 j
        · refine .inr ⟨fun j hj => ?_, ?_⟩
          · rw [secAt_splice hn (by omega) hc, if_neg (by omega)]
          · rw [secAt_splice hn (by omega) hc, if_pos rfl]
            exact getD_drop (by rw [List.length_take]; omega)
      · have hw := wr_go (n := n) (i := k) (b := t0) hd (by omega) hl0 hf
        rw [hw]
        refine ⟨splice_len hn (by omega) (by omega), rfl, Nat.le_succ _, by simp only; omega, fun h => ⟨rfl, by simp only; rw [if_neg (by omega)]; exact h⟩, fun h => rfl, .inl ⟨rfl, rfl, fun j => ?_⟩⟩
        rw [hfull]
        exact secAt_whole hn (by omega) hl0 j
/-- .. with the end's sector ahead -/
theorem wr_log (n k : Nat) (ST : List (List UInt8)) (hN : k + ST.length ≤ n) (h64 : ∀ t ∈ ST, t.length = 64) (h1 : 1 ≤ ST.length) (s : Dk.DS) (hd : s.dead = false) (hn : s.bs.length = 64 * n) (ht : s.torn ≤ 64) (hfu : -1 ≤ s.fuse) :
    WOutc n k ST.length (ST.length + 1) s (wrAll n s (logW n k ST)) (fun j => if k ≤ j ∧ j < k + ST.length then ST.getD (j - k) [] else if j = k + ST.length ∧ k + ST.length < n then List.replicate 64 0 else secAt s.bs j) := by
  unfold logW
  by_cases hlt : k + ST.length < n
  · rw [if_pos hlt]
    have hz : (List.replicate 64 (0 : UInt8)).length = 64 := List.length_replicate
    by_cases hf : s.fuse = 0
    · have hw := wr_die (n := n) (i := k + ST.length) (b := List.replicate 64 0) hd hlt hz hf
      rw [wrAll_bad hw (by omega)]
      have hc : ((List.replicate 64 (0 : UInt8)).take s.torn).length ≤ 64 := by rw [List.length_take]; omega
      refine ⟨splice_len hn hlt hc, rfl, Nat.le_succ _, by simp only; omega, fun h => by omega, fun h => by omega, .inr ⟨rfl, rfl, .inr ⟨fun j hj => ?_, ?_⟩⟩⟩
      · rw [secAt_splice hn hlt hc, if_neg (by omega)]
      · rw [secAt_splice hn hlt hc, if_neg (by omega)]
    · have hw := wr_go (n := n) (i := k + ST.length) (b := List.replicate 64 0) hd hlt hz hf
      rw [wrAll_ok hw]
      have hI := wr_rest n k ST hN h64 h1 ST.length 1 { bs := splice s.bs ((k + ST.length) * 64) (List.replicate 64 0), dead := false, fuse := if 0 < s.fuse then s.fuse - 1 else s.fuse, torn := s.torn, writes := s.writes + 1 } (by omega) (by omega) h1 rfl (splice_len hn hlt (by omega)) ht (by simp only; split <;> omega)
      have hsec : ∀ j, secAt (splice s.bs ((k + ST.length) * 64) (List.replicate 64 0)) j = if j = k + ST.length then List.replicate 64 0 else secAt s.bs j := secAt_whole hn hlt hz
      refine ⟨hI.len, hI.torn, Nat.le_trans (Nat.le_succ _) hI.w1, by have := hI.w2; simp only at this; omega, fun h => hI.fuse (by simp only; rw [if_neg (by omega)]; exact h), fun h => hI.enough (by simp only; rw [if_pos (by omega)]; omega), ?_⟩
      have hfull : ∀ j, (if j = k then ST.getD 0 [] else if k + 1 ≤ j ∧ j < k + ST.length then ST.getD (j - k) [] else secAt (splice s.bs ((k + ST.length) * 64) (List.replicate 64 0)) j) = (if k ≤ j ∧ j < k + ST.length then ST.getD (j - k) [] else if j = k + ST.length ∧ k + ST.length < n then List.replicate 64 0 else secAt s.bs j) := fun j => by
        rw [hsec]
        by_cases hj : j = k
        · subst hj
          rw [if_pos rfl, if_pos (by omega), Nat.sub_self]
        · rw [if_neg hj]
          by_cases hj2 : k + 1 ≤ j ∧ j < k + ST.length
          · rw [if_pos hj2, if_pos (by omega)]
          · have hj4 : ¬ (k ≤ j ∧ j < k + ST.length) := by omega
            rw [if_neg hj2, if_neg hj4]
            by_cases hj3 : j = k + ST.length
            · rw [if_pos hj3, if_pos ⟨hj3, hlt⟩]
            · rw [if_neg hj3, if_neg (by omega)]
      rcases hI.how with ⟨a1, a2, a3⟩ | ⟨a1, a2, a3⟩
      · exact .inl ⟨a1, a2, fun j => (a3 j).trans (hfull j)⟩
      · refine .inr ⟨a1, a2, ?_⟩
        rcases a3 with a3 | ⟨a3, a4⟩
        · exact .inl fun j => (a3 j).trans (hfull j)
        · refine .inr ⟨fun j hj => ?_, ?_⟩
          · rw [a3 j hj, hsec, if_neg (by omega)]
          · rw [a4, hsec, if_neg (by omega)]
  · rw [if_neg hlt]
    have hI := wr_rest n k ST hN h64 h1 ST.length 1 s (by omega) (by omega) h1 hd hn ht hfu
    have hfull : ∀ j, (if j = k then ST.getD 0 [] else if k + 1 ≤ j ∧ j < k + ST.length then ST.getD (j - k) [] else secAt s.bs j) = (if k ≤ j ∧ j < k + ST.length then ST.getD (j - k) [] else if j = k + ST.length ∧ k + ST.length < n then List.replicate 64 0 else secAt s.bs j) := fun j => by
      by_cases hj : j = k
      · subst hj
        rw [if_pos rfl, if_pos (by omega), Nat.sub_self]
      · rw [if_neg hj]
        by_cases hj2 : k + 1 ≤ j ∧ j < k + ST.length
        · rw [if_pos hj2, if_pos (by omega)]
        · rw [if_neg hj2, if_neg (by omega), if_neg (by omega)]
    refine ⟨hI.len, hI.torn, hI.w1, by have := hI.w2; omega, hI.fuse, fun h => hI.enough (by omega), ?_⟩
    rcases hI.how with ⟨a1, a2, a3⟩ | ⟨a1, a2, a3⟩
    · exact .inl ⟨a1, a2, fun j => (a3 j).trans (hfull j)⟩
    · refine .inr ⟨a1, a2, ?_⟩
      rcases a3 with a3 | a3
      · exact .inl fun j => (a3 j).trans (hfull j)
      · exact .inr a3
end Go.Proofs.Ytmmjihkcofgmmaa

/- The log, in plain Lean: an append, on a disk that may die. -/
namespace Go.Proofs.Ytmmjihkcofgmmaa
open Go.RowKit
set_option linter.unusedVariables false

theorem take_secs (bs : List UInt8) (m : Nat) : bs.take (64 * m) = (List.range m).flatMap (secAt bs) := by
  induction m with
  | zero => simp
  | succ m ih =>
    rw [show 64 * (m + 1) = 64 * m + 64 by omega, List.take_add, ih, List.range_succ, List.flatMap_append]
    simp [secAt]
theorem secs_congr {a b : List UInt8} {m : Nat} (h : ∀ j, j < m → secAt a j = secAt b j) : a.take (64 * m) = b.take (64 * m) := by
  rw [take_secs, take_secs]
  induction m with
  | zero => rfl
  | succ m ih => rw [List.range_succ, List.flatMap_append, List.flatMap_append, ih (fun j hj => h j (by omega)), List.flatMap_cons, List.flatMap_cons, h m (by omega)]; rfl
theorem secs_row {bs : List UInt8} {k : Nat} {ST : List (List UInt8)} (h : ∀ j, j < ST.length → secAt bs (k + j) = ST.getD j []) : bs.take (64 * (k + ST.length)) = bs.take (64 * k) ++ ST.flatten := by
  have : ∀ i, i ≤ ST.length → bs.take (64 * (k + i)) = bs.take (64 * k) ++ (ST.take i).flatten := by
    intro i
    induction i with
    | zero => intro _; simp
    | succ i ih =>
      intro hi
      obtain ⟨t, ht⟩ : ∃ t, ST[i]? = some t := ⟨_, List.getElem?_eq_getElem (by omega)⟩
      have h2 : (bs.drop (64 * (k + i))).take 64 = t := by
        have := h i (by omega)
        rw [List.getD_eq_getElem?_getD, ht] at this
        exact this
      rw [show 64 * (k + (i + 1)) = 64 * (k + i) + 64 by omega, List.take_add, ih (by omega), h2, List.take_add_one, ht]
      simp
  have h3 := this ST.length (Nat.le_refl _)
  rwa [List.take_length] at h3
theorem pad64_get (r : List UInt8) (q : Nat) : (pad64 r)[q]? = if q < r.length then r[q]? else if q < 64 * ((r.length + 63) / 64) then some 0 else none := by
  have hl := pad64_length r
  split
  · unfold pad64
    rw [List.getElem?_append_left (by assumption)]
  · split
    · rename_i h1 h2
      unfold pad64
      rw [List.getElem?_append_right (by omega), List.getElem?_replicate_of_lt]
      have := hl
      unfold pad64 at this
      rw [List.length_append, List.length_replicate] at this
      omega
    · exact List.getElem?_eq_none (by omega)
theorem partT_sec (r : List UInt8) (j : Nat) (hj : j < (r.length + 63) / 64) : secAt (pad64 r) j = partT r j := by
  apply List.ext_getElem?
  intro q
  rw [secAt_get]
  unfold partT filledB
  by_cases hq : q < 64
  · rw [if_pos hq, pad64_get]
    have hl : ((r.drop (64 * j)).take 64).length = min 64 (r.length - 64 * j) := by rw [List.length_take, List.length_drop]
    by_cases h1 : 64 * j + q < r.length
    · rw [if_pos h1, List.getElem?_append_left (by omega), List.getElem?_take_of_lt hq, List.getElem?_drop]
    · rw [if_neg h1, if_pos (by omega), List.getElem?_append_right (by omega), List.getElem?_replicate_of_lt (by omega)]
  · rw [if_neg hq, List.getElem?_eq_none]
    rw [List.length_append, List.length_replicate, List.length_take, List.length_drop]
    omega
theorem partsT_flatten (r : List UInt8) : (partsT r (List.range ((r.length + 63) / 64))).flatten = pad64 r := by
  have h1 := take_secs (pad64 r) ((r.length + 63) / 64)
  rw [← pad64_length, List.take_length] at h1
  rw [h1]
  unfold partsT
  rw [List.flatMap_def]
  congr 1
  apply List.map_congr_left
  intro j hj
  exact (partT_sec r j (List.mem_range.1 hj)).symm
theorem secT_flatten (last : List UInt8) (n : Nat) (b : List UInt8) : (secT n b (sumR last n b)).flatten = recB last n b := by
  unfold secT recB
  rw [List.flatten_cons, ← List.length_drop, partsT_flatten]
/-- a disk's bytes are a log's: these records, and no more behind them -/
structure Good (n : Nat) (bs : List UInt8) (T : List (List UInt8)) : Prop where
  len : bs.length = 64 * n
  fit : kT T ≤ n
  pre : bs.take (64 * kT T) = allB T
  stop : kT T = n ∨ (secAt bs (kT T)).getD 63 0 = 0
  hT : ∀ t ∈ T, t.length ≤ 100000
theorem Good.opened {n : Nat} {bs : List UInt8} {T : List (List UInt8)} (h : Good n bs T) : openR n bs = some (T, kT T) := by
  refine openR_all n bs (bs.drop (64 * kT T)) T h.len ?_ h.hT (h.stop.imp_right fun h e => ?_)
  · rw [← h.pre, List.take_append_drop]
  · rw [h] at e
    cases e
theorem Good.new (n : Nat) : Good n (List.replicate (64 * n) 0) [] := by
  refine ⟨by simp, Nat.zero_le _, by simp [kT]; rfl, ?_, by simp⟩
  rcases Nat.eq_zero_or_pos n with h | h
  · exact .inl (by simp [kT, h])
  · refine .inr ?_
    rw [List.getD_eq_getElem?_getD, secAt_get, if_pos (by omega), List.getElem?_replicate]
    split <;> rfl
/-- what an append leaves on a disk -/
structure AppOut (n : Nat) (s : Dk.DS) (T : List (List UInt8)) (b : List UInt8) (r : Dk.DS × Int) : Prop where
  torn : r.1.torn = s.torn
  w1 : s.writes ≤ r.1.writes
  w2 : r.1.writes ≤ s.writes + needN b.length + 1
  fuse : s.fuse = -1 → r.2 = 0 ∧ r.1.fuse = -1
  enough : (needN b.length : Int) + 1 ≤ s.fuse → r.2 = 0
  how : (r.2 = 0 ∧ r.1.dead = false ∧ Good n r.1.bs (T ++ [b])) ∨ (r.2 = 30 ∧ r.1.dead = true ∧ (Good n r.1.bs T ∨ Good n r.1.bs (T ++ [b])))
theorem app_good (n : Nat) (s : Dk.DS) (T : List (List UInt8)) (b : List UInt8) (hg : Good n s.bs T) (hd : s.dead = false) (ht : s.torn ≤ 64) (hfu : -1 ≤ s.fuse) (hb : b.length ≤ 100000) (hroom : kT T + needN b.length ≤ n) :
    AppOut n s T b (wrAll n s (logW n (kT T) (secT T.length b (sumR (lastR T) T.length b)))) := by
  obtain ⟨sum, hs⟩ : ∃ sum, sumR (lastR T) T.length b = sum := ⟨_, rfl⟩
  have hsl : sum.length = 32 := hs ▸ sumR_length _ _ _
  have hfl := secT_flatten (lastR T) T.length b
  rw [hs] at hfl ⊢
  obtain ⟨ST, hST⟩ : ∃ ST, secT T.length b sum = ST := ⟨_, rfl⟩
  have hlen : ST.length = needN b.length := hST ▸ secT_length _ _ _ hb
  have h64 : ∀ t ∈ ST, t.length = 64 := hST ▸ secT_64 _ _ _ hsl
  rw [hST] at hfl ⊢
  have hpos := needN_pos b.length hb
  have hW := wr_log n (kT T) ST (by omega) h64 (by omega) s hd hg.len ht hfu
  obtain ⟨r, hr⟩ : ∃ r, wrAll n s (logW n (kT T) ST) = r := ⟨_, rfl⟩
  rw [hr] at hW ⊢
  have hT' : ∀ t ∈ T ++ [b], t.length ≤ 100000 := fun t ht => by
    rcases List.mem_append.1 ht with ht | ht
    · exact hg.hT t ht
    · simp at ht; subst ht; exact hb
  have hfull : (∀ j, secAt r.1.bs j = if kT T ≤ j ∧ j < kT T + ST.length then ST.getD (j - kT T) [] else if j = kT T + ST.length ∧ kT T + ST.length < n then List.replicate 64 0 else secAt s.bs j) → Good n r.1.bs (T ++ [b]) := fun h => by
    have hk : kT (T ++ [b]) = kT T + ST.length := by rw [kT_snoc, hlen]
    refine ⟨hW.len, by rw [hk]; omega, ?_, ?_, hT'⟩
    · rw [hk, secs_row (fun j hj => by rw [h, if_pos (by omega)]; congr 1; omega), hfl, allB_snoc]
      congr 1
      rw [secs_congr (b := s.bs) (fun j hj => by rw [h, if_neg (by omega), if_neg (by omega)])]
      exact hg.pre
    · rw [hk]
      by_cases hn : kT T + ST.length = n
      · exact .inl hn
      · refine .inr ?_
        rw [h, if_neg (by omega), if_pos ⟨rfl, by omega⟩]
        rfl
  refine ⟨hW.torn, hW.w1, by have := hW.w2; omega, hW.fuse, fun h => hW.enough (by omega), ?_⟩
  rcases hW.how with ⟨a1, a2, a3⟩ | ⟨a1, a2, a3⟩
  · exact .inl ⟨a1, a2, hfull a3⟩
  · refine .inr ⟨a1, a2, ?_⟩
    rcases a3 with a3 | ⟨a3, a4⟩
    · exact .inr (hfull a3)
    · refine .inl ⟨hW.len, hg.fit, ?_, ?_, hg.hT⟩
      · rw [secs_congr (b := s.bs) (fun j hj => a3 j (by omega))]
        exact hg.pre
      · refine hg.stop.imp_right fun h => ?_
        rw [a4]
        exact h
end Go.Proofs.Ytmmjihkcofgmmaa

/- The log: what its laws call, where the disk is good; the document's examples. -/
namespace Go.Proofs.Ytmmjihkcofgmmaa
open Go.RowKit
set_option linter.unusedVariables false

/-- opening a good disk -/
def OpenG (w : World) (p g n cap : Nat) (s : Dk.DS) (D : List Nat) (T : List (List UInt8)) (e : Ending) (w' : World) : Prop :=
  ∃ x lv, e = .returned (.tuple #[.pointer (some ⟨x, 0, none⟩), .int .i64 0]) ∧ w.heap.size ≤ x ∧ IsLog w' x p g n cap s lv T (kT T) false (x :: p :: g :: D) w.heap.size ∧ Fr [] w w'
theorem open_good (w : World) (p g n cap : Nat) (s : Dk.DS) (T : List (List UInt8)) (h : Dk.IsDisk w p g n cap s) (hd : s.dead = false) (hg : Good n s.bs T) (D : List Nat) (hD : ∀ y ∈ D, y < w.heap.size) : Calls Try.prog 14 #[.pointer (some ⟨p, 0, none⟩)] w (OpenG w p g n cap s D T) := by
  refine (open_calls w p g n cap s h hd D hD).mono fun e w' ho => ?_
  rw [hg.opened] at ho
  obtain ⟨hf, ⟨hr, _⟩ | ⟨T', k, x, lv, hr, he, hx, hl⟩⟩ := ho
  · cases hr
  · injection hr with hr
    injection hr with h1 h2
    subst h1 h2
    exact ⟨x, lv, he, hx, hl, hf⟩
theorem rec_calls (w : World) (x p g n cap : Nat) (s : Dk.DS) (lv : Value) (T : List (List UInt8)) (k : Nat) (br : Bool) (D : List Nat) (base : Nat) (h : IsLog w x p g n cap s lv T k br D base) (E : List Nat) (hE : ∀ y ∈ E, y < w.heap.size) :
    Calls Try.prog 17 #[.pointer (some ⟨x, 0, none⟩)] w (fun e w' => ∃ A c, e = .returned (.slice A T.length c) ∧ TxRow w' (.slice A T.length c) E w.heap.size T ∧ Fr [] w w') := by
  obtain ⟨A, c, rfl, _, hT⟩ := h.rows.toIn
  refine (records_calls w E hE x p A T.length c k (lastR T) br T h.head rfl hT (by have := h.hT; have := h.hk; have := h.disk.few; omega) (fun t ht => by have := h.hs t ht; omega)).mono fun e w' hr => ?_
  obtain ⟨v, he, ht, hf⟩ := hr
  obtain ⟨A', n', c', rfl⟩ := ht.slice
  obtain rfl := ht.len
  exact ⟨A', c', he, ht, hf⟩
theorem logfree_calls (w : World) (x p g n cap : Nat) (s : Dk.DS) (lv : Value) (T : List (List UInt8)) (k : Nat) (br : Bool) (D : List Nat) (base : Nat) (h : IsLog w x p g n cap s lv T k br D base) :
    Calls Try.prog 23 #[.pointer (some ⟨x, 0, none⟩)] w (Agg (.int .i64 ((n : Int) - (k : Int))) w) := free_calls w x p g n cap s lv k (lastR T) br h.head h.disk h.disk.few h.hk
/-- an append, where nothing dies -/
theorem appR_ok {n : Nat} {s : Dk.DS} {T : List (List UInt8)} {b : List UInt8} (hg : Good n s.bs T) (hd : s.dead = false) (ht : s.torn ≤ 64) (hfu : s.fuse = -1 ∨ (needN b.length : Int) + 1 ≤ s.fuse) (hb : b.length ≤ 100000) (hroom : kT T + needN b.length ≤ n) :
    ∃ s', appR n s T (kT T) false b = (0, s', T ++ [b], kT (T ++ [b]), false) ∧ s'.dead = false ∧ Good n s'.bs (T ++ [b]) ∧ (s.fuse = -1 → s'.fuse = -1) ∧ s'.torn = s.torn ∧ s.writes ≤ s'.writes ∧ s'.writes ≤ s.writes + needN b.length + 1 := by
  have h := app_good n s T b hg hd ht (by omega) hb hroom
  have h0 : (wrAll n s (logW n (kT T) (secT T.length b (sumR (lastR T) T.length b)))).2 = 0 := by
    rcases hfu with hfu | hfu
    · exact (h.fuse hfu).1
    · exact h.enough hfu
  refine ⟨(wrAll n s (logW n (kT T) (secT T.length b (sumR (lastR T) T.length b)))).1, ?_, ?_, ?_, fun hf => (h.fuse hf).2, h.torn, h.w1, h.w2⟩
  · unfold appR
    rw [if_neg (by simp), if_neg (by omega), if_pos h0, kT_snoc]
  · rcases h.how with ⟨_, h2, _⟩ | ⟨h1, _⟩
    · exact h2
    · rw [h0] at h1; cases h1
  · rcases h.how with ⟨_, _, h3⟩ | ⟨h1, _⟩
    · exact h3
    · rw [h0] at h1; cases h1
theorem appR_full {n : Nat} {s : Dk.DS} {T : List (List UInt8)} {b : List UInt8} {k : Nat} (h : n < k + needN b.length) : appR n s T k false b = (12, s, T, k, false) := by
  unfold appR
  rw [if_neg (by simp), if_pos h]
theorem need_k (W : World) (m k : Nat) (z : Int) (hz : z = (m : Int)) (hm : m ≤ 100000) (hk : needN m = k) (y : Int) (hy : y = (k : Int)) : Calls Try.prog 9 #[.int .i64 z] W (Same (.int .i64 y) W) := by
  subst hz hk hy
  exact need_nat W m hm
def abcB : List UInt8 := [97, 98, 99]
set_option maxHeartbeats 4000000 in
set_option maxRecDepth 100000 in
theorem alive08 (w : World) : Calls Try.prog 8 #[] w (Agg (.bool true) w) := by
  have hcs := fun (w : World) (C : Array Value) (n c : Nat) => Lib.run_convert_bytes_const (P := Try.prog) w 26 5 C n c Try.underlying26 Try.underlying5
  have HNW := Lib.hid (Dk.new_good w 3 (by omega))
  have hneq : ∀ (a : Addr) (w : World), (binOp .eql 33 (.pointer (some a)) (.pointer none)).run Try.prog w = .ok (.bool false) w := fun a w => by kernel_rfl
  obtain ⟨s1, hR, hd1, hg1, hfu1, ht1, _, _⟩ := appR_ok (b := abcB) (Good.new 3) (s := Dk.DS.new 3) rfl (Nat.zero_le _) (.inl rfl) (by decide) (by decide)
  have HR := Lib.hid hR; have HD1 := Lib.hid hd1; have HG1 := Lib.hid hg1
  have hk1 : kT ([] ++ [abcB]) = 1 := by decide
  have HK1 := Lib.hid hk1
  have hk0 : kT [] = 0 := rfl
  clear hR hd1 hg1 hfu1 ht1 hk1
  go_enter Try.func8, Try.ntmps8
  go_wp2_with (first
    | go_big_skip
    | (go_at_call 12; (refine HNW.out.mono ?_); rintro e w1 ⟨rfl, hdk, f1⟩; have F1 := Lib.hid f1; have HO1 := Lib.hid (open_good w1 _ _ 3 3 _ [] hdk rfl (Good.new 3) [] (by simp)); clear f1 hdk)
    | (go_at_call 14; (with_reducible refine HO1.out.mono ?_); rintro e w2 ⟨x, lv, rfl, hx, hl, f2⟩; have F2 := Lib.hid (F1.out.trans f2); have hwA := (Fr.refl [] w2).alloc (.cells (u8s abcB).toArray 5 (3, 4));
        have HAP := Lib.hid (HR.out ▸ append_calls _ x _ _ 3 3 (Dk.DS.new 3) lv [] 0 false _ _ (hl.fr hwA) (some ⟨w2.heap.size, 0, none⟩) 3 3 abcB rfl (by omega) (by omega) (rd_marked w2 _ _ _) (fun _ q off hq => by injection hq with hq; injection hq with hq; subst hq; have h1 := hl.hD _ hl.hx; have h2 := hl.hD _ hl.hp; have h3 := hl.hD _ hl.hg; omega) (by decide));
        have HB2 := Lib.hid (fun q (hq : q ∈ x :: (w.heap.size + 1) :: w.heap.size :: lv.ownBlock.toList) => (show w1.heap.size ≤ q ∨ w.heap.size ≤ q from by
          rcases List.mem_cons.1 hq with rfl | hq; exact .inl hx
          rcases List.mem_cons.1 hq with rfl | hq; exact .inr (by omega)
          rcases List.mem_cons.1 hq with rfl | hq; exact .inr (by omega)
          exact .inl (hl.rows.lt q (by simpa using hq)).1)); have HWA := Lib.hid hwA; clear hl hx f2 hwA HO1)
    | (go_at_call 21; (refine HAP.out.mono ?_); rintro e w3 ⟨lv3, rfl, hl3, f3, _⟩; have HL3 := Lib.hid (show IsLog w3 x (w.heap.size + 1) w.heap.size 3 3 s1 lv3 ([] ++ [abcB]) (kT ([] ++ [abcB])) false [x, w.heap.size + 1, w.heap.size] w1.heap.size from hl3);
        have F3 := Lib.hid ((F2.out.trans HWA.out).trans' f3 (fun q hq => .inr ((HB2.out q hq).elim (Nat.le_trans F1.out.size) id))); have HO3 := Lib.hid (open_good w3 _ _ 3 3 s1 ([] ++ [abcB]) HL3.out.disk HD1.out HG1.out [] (by simp)); clear hl3 f3 HAP)
    | (go_at_call 14; (with_reducible refine HO3.out.mono ?_); rintro e w4 ⟨z, lv4, rfl, hz, hl4, f4⟩; have F4 := Lib.hid (F3.out.trans f4);
        have HFR := Lib.hid ((show ((3 : Nat) : Int) - ((kT ([] ++ [abcB]) : Nat) : Int) = 2 by rw [HK1.out]; rfl) ▸ logfree_calls w4 x _ _ 3 3 s1 lv3 _ _ _ _ _ (HL3.out.fr f4)); have HL4 := Lib.hid hl4; clear hz hl4 f4 HO3)
    | (go_at_call 23; (with_reducible refine HFR.out.mono ?_); rintro e w5 ⟨rfl, f5⟩; have F5 := Lib.hid (F4.out.trans f5); have HRC := Lib.hid (rec_calls w5 z _ _ 3 3 s1 lv4 _ _ _ _ _ (HL4.out.fr f5) [] (by simp)); clear f5)
    | (go_at_call 9; (with_reducible refine (need_k _ 0 1 0 rfl (by decide) (by decide) 1 rfl).mono ?_); rintro e w' ⟨rfl, rfl⟩)
    | (go_at_call 9; (with_reducible refine (need_k _ 19 1 19 rfl (by decide) (by decide) 1 rfl).mono ?_); rintro e w' ⟨rfl, rfl⟩)
    | (go_at_call 9; (with_reducible refine (need_k _ 20 2 20 rfl (by decide) (by decide) 2 rfl).mono ?_); rintro e w' ⟨rfl, rfl⟩)
    | (go_at_call 9; (with_reducible refine (need_k _ 83 2 83 rfl (by decide) (by decide) 2 rfl).mono ?_); rintro e w' ⟨rfl, rfl⟩)
    | (go_at_call 9; (with_reducible refine (need_k _ 84 3 84 rfl (by decide) (by decide) 3 rfl).mono ?_); rintro e w' ⟨rfl, rfl⟩)
    | (go_at_call 17; (with_reducible refine HRC.out.mono ?_); rintro e w6 ⟨RA, rc, rfl, _, f6⟩; have F6 := Lib.hid (F5.out.trans f6); clear f6))
  go_ret
  exact ⟨rfl, F6.out⟩
end Go.Proofs.Ytmmjihkcofgmmaa
