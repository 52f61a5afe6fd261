/- History: a text is hashed. -/
import Derived.Test.YtmgbimdebhhckaaHistL
namespace Go.Proofs.Ytmgbimdebhhckaa
open Go.RowKit
set_option linter.unusedVariables false

theorem infoSl : (Try.prog.info? 45).map (fun i => (i.zero, i.size, i.bytes)) = some (some (.slice none 0 0), 1, 24) := by kernel_rfl
/-- what a step of a proof leaves -/
def PStep (w : World) (D : List Nat) (g base : Nat) (v : Value) (L T : List (List UInt8)) (lk : Bool) (w' : World) : Prop :=
  ∃ v', PIs w' D g base v' L T lk ∧ Fr (g :: v.ownBlock.toList) w w' ∧ ∀ k, v'.ownBlock = some k → v.ownBlock = some k ∨ w.heap.size ≤ k
def HashP (w : World) (D : List Nat) (g base : Nat) (v : Value) (L T : List (List UInt8)) (lk : Bool) (d : List UInt8) (e : Ending) (w' : World) : Prop :=
  e = .returned (.agg (u8s d).toArray) ∧ PStep w D g base v L T lk w'
theorem PIs.lt {w : World} {D : List Nat} {g base : Nat} {v : Value} {L T : List (List UInt8)} {lk : Bool} (h : PIs w D g base v L T lk) : g < w.heap.size := by
  obtain ⟨A, c, hb, _⟩ := h.blk
  exact hb.lt
theorem PIs.vlt {w : World} {D : List Nat} {g base : Nat} {v : Value} {L T : List (List UInt8)} {lk : Bool} (h : PIs w D g base v L T lk) : ∀ k, v.ownBlock = some k → base ≤ k ∧ k < w.heap.size := by
  obtain ⟨vs, _, ho, _⟩ := h.tx
  exact fun k hk => ho.lt k hk
/-- a proof stands where its blocks stand -/
theorem PIs.fr {S : List Nat} {w w' : World} {D : List Nat} {g base : Nat} {v : Value} {L T : List (List UInt8)} {lk : Bool} (h : PIs w D g base v L T lk) (hf : Fr S w w') (hS : ∀ x ∈ S, w.heap.size ≤ x) : PIs w' D g base v L T lk := by
  have hl := h.lt
  have hvl := h.vlt
  obtain ⟨hd, hg, hv, ⟨A, c, hb, hc, hD, hA⟩, htx⟩ := h
  have hf0 : Fr [] w w' := hf.mono (fun x hx => .inr (hS x hx))
  refine ⟨hd, hg, hv, ⟨A, c, hb.fr hf0 (by simp), hc, hD.fr hf0, hA⟩, ?_⟩
  obtain ⟨vs, h1, h2, h3⟩ := htx
  exact ⟨vs, h1, own_fr h2 hf0 (by simp), fun i t ht => let ⟨A, c, e1, e2, e3⟩ := h3 i t ht; ⟨A, c, e1, e2.fr hf0 (by simp), e3⟩⟩
theorem own_snoc_tx {w w' : World} {v v' : Value} {D : List Nat} {g base : Nat} {T : List (List UInt8)} {vs : List Value} {A : Option Addr} {c : Nat} {t : List UInt8}
    (hgd : g ∈ D) (h1 : vs.length = T.length) (h3 : ∀ (i : Nat) (t : List UInt8), T[i]? = some t → ∃ (A : Option Addr) (c : Nat), vs[i]? = some (Value.slice A t.length c) ∧ Rd w A t ∧ (0 < t.length → ∀ b off, A = some ⟨b, off, none⟩ → b ∉ D ∧ some b ≠ v.ownBlock))
    (hr : Rd w A t) (hA : 0 < t.length → ∀ b off, A = some ⟨b, off, none⟩ → b ∉ D ∧ some b ≠ v.ownBlock)
    (ho : w'.ownsRow base 45 1 v' (T.length + 1) (vs ++ [.slice A t.length c])) (hf : Fr (g :: v.ownBlock.toList) w w') (hb : v'.ownBlock = v.ownBlock ∨ ∃ k, v'.ownBlock = some k ∧ w.heap.size ≤ k) : TxRow w' v' D base (T ++ [t]) := by
  refine ⟨vs ++ [.slice A t.length c], by simp [h1], by simpa using ho, fun i u hu => ?_⟩
  have key : ∀ (B : Option Addr) (u : List UInt8), Rd w B u → (0 < u.length → ∀ b off, B = some ⟨b, off, none⟩ → b ∉ D ∧ some b ≠ v.ownBlock) → Rd w' B u ∧ (0 < u.length → ∀ b off, B = some ⟨b, off, none⟩ → b ∉ D ∧ some b ≠ v'.ownBlock) := by
    intro B u hB hn
    refine ⟨hB.fr0 hf (fun hl b off hb hm => ?_), fun hl b off hb' => ⟨(hn hl b off hb').1, ?_⟩⟩
    · simp only [List.mem_cons, Option.mem_toList] at hm
      rcases hm with hm | hm
      · exact (hn hl b off hb).1 (hm ▸ hgd)
      · exact (hn hl b off hb).2 hm.symm
    · rcases hb with hb | ⟨k, hk, hge⟩
      · rw [hb]; exact (hn hl b off hb').2
      · rw [hk]
        subst hb'
        have := hB.lt hl
        intro e
        injection e with e
        omega
  rcases Nat.lt_or_ge i T.length with hi | hi
  · rw [List.getElem?_append_left hi] at hu
    obtain ⟨B, d, e1, e2, e3⟩ := h3 i u hu
    obtain ⟨k1, k2⟩ := key B u e2 e3
    exact ⟨B, d, by rw [List.getElem?_append_left (by omega)]; exact e1, k1, k2⟩
  · rw [List.getElem?_append_right hi] at hu
    have h0 : i - T.length = 0 := by
      rcases Nat.eq_zero_or_pos (i - T.length) with h | h
      · exact h
      · rw [List.getElem?_eq_none (by simp; omega)] at hu; cases hu
    rw [h0] at hu
    simp at hu
    subst hu
    obtain ⟨k1, k2⟩ := key A t hr hA
    exact ⟨A, c, by rw [List.getElem?_append_right (by omega), h1, h0]; rfl, k1, k2⟩
theorem own_slice {w : World} {base : Nat} {e : TypeId} {size : Nat} {v : Value} {n : Nat} {xs : List Value} (h : w.ownsRow base e size v n xs) : ∃ A c, v = .slice A n c := by
  rcases h.2 with ⟨rfl, h0⟩ | ⟨g, cap, cur, rfl, _⟩
  · exact ⟨none, 0, by rw [h0]⟩
  · exact ⟨_, cap, rfl⟩
theorem hash_z {w2 w3 w4 : World} {z g W : Nat} {v : Value} {t : TypeId} {cs : Array Value} (h : Blk w2 W t cs) (f3 : Fr v.ownBlock.toList w2 w3) (f4 : Fr [g] w3 w4) (hg : g < W) (hv : ∀ k, v.ownBlock = some k → z ≤ k ∧ k < W) : Blk w4 W t cs :=
  (h.fr f3 (by simp only [Option.mem_toList]; intro e; have := hv W e; omega)).fr f4 (by simp; omega)
theorem hash_rd {w1 w3 w4 : World} {D : List Nat} {g : Nat} {v : Value} {A : Option Addr} {t : List UInt8} (h : Rd w1 A t) (hgd : g ∈ D) (hA : 0 < t.length → ∀ b off, A = some ⟨b, off, none⟩ → b ∉ D ∧ some b ≠ v.ownBlock) (f3 : Fr v.ownBlock.toList w1 w3) (f4 : Fr [g] w3 w4) : Rd w4 A t :=
  (h.fr0 f3 (fun hl b off hb hm => by simp only [Option.mem_toList] at hm; exact (hA hl b off hb).2 hm.symm)).fr0 f4 (fun hl b off hb hm => by simp at hm; exact (hA hl b off hb).1 (hm ▸ hgd))
set_option maxHeartbeats 1000000 in
theorem hash_calls' (w : World) (D : List Nat) (g base : Nat) (v : Value) (L T : List (List UInt8)) (lk : Bool) (h : PIs w D g base v L T lk) (A : Option Addr) (m c : Nat) (t : List UInt8) (hm : t.length = m) (hr : Rd w A t)
    (hA : 0 < t.length → ∀ b off, A = some ⟨b, off, none⟩ → b ∉ D ∧ some b ≠ v.ownBlock) (hT : T.length ≤ 1000000) (ht : m ≤ 1000000) :
    Calls Try.prog 44 #[.pointer (some ⟨g, 0, none⟩), .slice A m c] w (HashP w D g base v L (T ++ [t]) lk (shaB t)) := by
  have hgl := h.lt
  have hvl := h.vlt
  have H := Lib.hid h
  obtain ⟨hd, hg, hv, ⟨AL, cL, hblk, hc, hD, hAL⟩, ⟨vs, h1, h2, h3⟩⟩ := h
  have HDG := Lib.hid hd
  clear hd
  obtain ⟨w1, hw1⟩ : ∃ W, w.alloc (.cells (zs 32).toArray 25) = W := ⟨_, rfl⟩
  have HB1 := Lib.hid (show Blk w1 w.heap.size 25 (zs 32).toArray from hw1 ▸ Blk.new _ _ _)
  have F1 := Lib.hid (show Fr [] w w1 from hw1 ▸ (Fr.refl [] w).alloc _)
  have HS1 := Lib.hid (show w1.heap.size = w.heap.size + 1 from hw1 ▸ by simp)
  have HG1 := Lib.hid (hblk.fr F1.out (by simp))
  have c1 : w1.cell? ⟨g, 1, none⟩ = some v := by rw [HG1.out.cell]; rfl
  obtain ⟨w2, hw2⟩ : ∃ W, w1.alloc (.cells #[.slice A m c] 45) = W := ⟨_, rfl⟩
  have F2 := Lib.hid (show Fr [] w1 w2 from hw2 ▸ (Fr.refl [] w1).alloc _)
  have HN2 := Lib.hid (show Blk w2 w1.heap.size 45 #[.slice A m c] from hw2 ▸ Blk.new _ _ _)
  have HO2 := Lib.hid (own_fr (own_fr h2 F1.out (by simp)) F2.out (by simp))
  have HSRC := Lib.hid (fun (_ : 0 < [Value.slice A m c].length) => (⟨⟨w1.heap.size, 0, none⟩, rfl, fun j u hu => by
    match j with
    | 0 => simp at hu; subst hu; rw [addr_add0, HN2.out.cell]; rfl
    | j + 1 => simp at hu⟩ : ∃ ad, (some (⟨w1.heap.size, 0, none⟩ : Addr)) = some ad ∧ ∀ j u, [Value.slice A m c][j]? = some u → w2.cell? (ad.add j) = some u))
  have HBS := Lib.hid (show base ≤ w2.heap.size from by have := F1.out.size; have := F2.out.size; omega)
  have HHG := Lib.hid (And.intro hg (And.intro hv (And.intro hgl (And.intro hvl (And.intro hc (And.intro hD hAL))))))
  have HX := Lib.hid (And.intro h1 (And.intro h3 (And.intro hr hA)))
  have hT1 : T.length + 1 ≤ maxLen := by unfold maxLen; omega
  have hT2 : (T.length + 1) * 24 ≤ 140737488355328 := by omega
  have HM := Lib.hid hm
  have HD32 := Lib.hid (shaB_length t)
  have HDS := Lib.hid (dig_size _ (shaB_length t))
  have HFT := Lib.hid (show 0 + (u8s (shaB t)).length ≤ (zs 32).length by simp [zs_length, shaB_length])
  have HSP := Lib.hid (splice_32 _ (shaB_length t))
  clear hblk hg hv hgl hvl hc hD hAL h1 h2 h3 hr hA hm
  go_enter Try.func44, Try.ntmps44
  go_wp2_with (first
    | (refine wpList_alloc_agg rfl 25 rfl (zs 32).toArray arr32_zero ?_; rw [hw1])
    | (at_builtin; (try rw [hw2]); refine wpList_append rfl (.tmp 9) (.tmp 11) 37 rfl base 45 (.slice none 0 0) 1 24 Try.underlying37 infoSl rfl (by decide) v T.length vs rfl HO2.out (some ⟨w1.heap.size, 0, none⟩) 1 1 [.slice A m c] rfl rfl HSRC.out (by simp [Value.oneCell']) hT1 hT2 HBS.out ?_;
        intro v3 w3 ho3 _ hg3 hb3; obtain ⟨A3, k3, rfl⟩ := own_slice ho3; have HO3 := Lib.hid ho3; have HB3 := Lib.hid hb3; have F3 := Lib.hid (grown_fr (S := v.ownBlock.toList) hg3 (by simp)); have HGNV := Lib.hid (show g ∉ v.ownBlock.toList from by simp only [Option.mem_toList]; exact fun e => HHG.out.2.1 e.symm);
        have HG3 := Lib.hid (HG1.out.fr F2.out (by simp) |>.fr F3.out HGNV.out); have c13 : w3.cell? ⟨g, 1, none⟩ = some v := (by rw [HG3.out.cell]; rfl); have hz3 : w3.frozen? ⟨g, 1, none⟩ = false := HG3.out.frozen 1; clear ho3 hg3 hb3)
    | (go_at_call 20; obtain ⟨w4, hw4⟩ : ∃ W, w3.setCell ⟨g, 1, none⟩ (.slice A3 (T.length + 1) k3) = W := ⟨_, rfl⟩; rw [hw4];
        have F4 := Lib.hid (show Fr [g] w3 w4 from hw4 ▸ (Fr.refl [g] w3).setCell (.inl (by simp)) _);
        have HG4 := Lib.hid (show Blk w4 g 54 #[.slice AL L.length cL, .slice A3 (T.length + 1) k3, .bool lk] from hw4 ▸ HG3.out.set_ 1 _);
        have HB4 := Lib.hid (hash_z (HB1.out.fr F2.out (by simp)) F3.out F4.out HHG.out.2.2.1 HHG.out.2.2.2.1);
        have HR4 := Lib.hid (hash_rd (w1 := w2) (HX.out.2.2.1.fr (F1.out.trans F2.out) (by simp)) HDG.out HX.out.2.2.2 F3.out F4.out);
        have HSM := Lib.hid (sum_calls w4 A m c t HM.out HR4.out (by omega)); clear hw4 c13 hz3;
        (with_reducible refine HSM.out.mono ?_); rintro e w5 ⟨rfl, f5⟩; have F5 := Lib.hid f5; have HB5 := Lib.hid (HB4.out.fr f5 (by simp)); clear f5)
    | (refine wpList_store_agg rfl 25 (.tmp 4) (.tmp 16) rfl w.heap.size 0 rfl (u8s (shaB t)) rfl (zs 32) 25 HB5.out HFT.out (u8s_one _) HDS.out ?_; rw [HSP.out]))
  have hb6 := HB5.out.setRow_ (u8s (shaB t)).toArray
  refine bodyPost_ret (results_cell_row (p := 4) (ty := 25) rfl _ _ w.heap.size 25 (u8s (shaB t)).toArray (0, 0) _ rfl hb6 Try.underlying25 rfl (by rw [List.size_toArray]; exact HDS.out)) rfl ?_
  refine ⟨rfl, .slice A3 (T.length + 1) k3, ?_⟩
  obtain ⟨hg, hv, hgl, hvl, hc, hD, hAL⟩ := HHG.out
  obtain ⟨h1, h3, hr, hA⟩ := HX.out
  have f02 : Fr [] w w2 := F1.out.trans F2.out
  have s2 : w2.heap.size = w.heap.size + 2 := by have := HS1.out; rw [← hw2]; simp; omega
  have hown : ∀ k, (Value.slice A3 (T.length + 1) k3).ownBlock = some k → v.ownBlock = some k ∨ w.heap.size ≤ k := by
    intro k hk
    rcases HB3.out with h | h
    · rw [h] at hk; exact .inl hk
    · rw [h] at hk; injection hk with hk; exact .inr (by omega)
  have hgn : some g ≠ (Value.slice A3 (T.length + 1) k3).ownBlock := by
    intro e
    rcases hown g e.symm with h | h
    · exact hv h.symm
    · omega
  have f35 : Fr [g] w3 w5 := F4.out.trans (F5.out.mono (by simp))
  have f36 : Fr [g, w.heap.size] w3 (w5.setRow w.heap.size (u8s (shaB t)).toArray) := ((f35.mono (T := [g, w.heap.size]) (by simp))).setRow (.inl (by simp)) _
  have fall : Fr (g :: v.ownBlock.toList) w (w5.setRow w.heap.size (u8s (shaB t)).toArray) := by
    have a : Fr (g :: v.ownBlock.toList) w w3 := (f02.mono (T := g :: v.ownBlock.toList) (by simp)).trans (F3.out.mono (fun x hx => .inl (by simp only [List.mem_cons]; exact .inr hx)))
    exact (a.trans (f35.mono (fun x hx => .inl (by simp at hx; simp [hx])))).setRow (.inr (Nat.le_refl _)) _
  refine ⟨⟨HDG.out, hg, hgn, ⟨AL, cL, ?_, hc, ?_, hAL⟩, ?_⟩, fall, hown⟩
  · exact (HG4.out.fr F5.out (by simp)).setRow_far (by omega) _
  · refine dgIn_keep hD fall (fun hl b off hb hm => ?_)
    have := hAL hl b off hb
    simp only [List.mem_cons, Option.mem_toList] at hm
    rcases hm with hm | hm
    · omega
    · have := hvl b hm; omega
  · refine own_snoc_tx (w := w) (v := v) (A := A) (c := c) (t := t) HDG.out h1 h3 hr hA ?_ fall (by
      rcases HB3.out with h | h
      · exact .inl h
      · exact .inr ⟨_, h, by omega⟩)
    rw [HM.out]
    refine own_fr HO3.out f36 (fun k hk hm => ?_)
    simp at hm
    rcases hm with rfl | rfl
    · exact hgn hk.symm
    · rcases HB3.out with h | h
      · rw [h] at hk; have := hvl _ hk; omega
      · rw [h] at hk; injection hk with hk; omega
end Go.Proofs.Ytmgbimdebhhckaa
