/- History: up. -/
import Derived.Test.YtmgbimdebhhckaaHistM
namespace Go.Proofs.Ytmgbimdebhhckaa
open Go.RowKit
set_option linter.unusedVariables false

/-- what a step may turn: the proof's own block, and its row of texts -/
structure PF (w w' : World) (g : Nat) (v v' : Value) : Prop where
  fr : Fr (g :: v.ownBlock.toList) w w'
  own : ∀ k, v'.ownBlock = some k → v.ownBlock = some k ∨ w.heap.size ≤ k
theorem PF.refl (w : World) (g : Nat) (v : Value) : PF w w g v v := ⟨Fr.refl _ _, fun k h => .inl h⟩
theorem PF.of0 {w w' : World} (h : Fr [] w w') (g : Nat) (v : Value) : PF w w' g v v := ⟨h.mono (by simp), fun k h => .inl h⟩
theorem PF.ofg {w w' : World} {g : Nat} (h : Fr [g] w w') (v : Value) : PF w w' g v v := ⟨h.mono (fun x hx => .inl (by simp at hx; simp [hx])), fun k h => .inl h⟩
theorem PF.trans {a b c : World} {g : Nat} {u v x : Value} (h : PF a b g u v) (k : PF b c g v x) : PF a c g u x :=
  ⟨h.fr.trans' k.fr (fun y hy => by
    simp only [List.mem_cons, Option.mem_toList] at hy
    rcases hy with rfl | hy
    · exact .inl (by simp)
    · rcases h.own y hy with h1 | h1
      · exact .inl (by simp [h1])
      · exact .inr h1),
   fun y hy => by
    rcases k.own y hy with h1 | h1
    · exact h.own y h1
    · exact .inr (Nat.le_trans h.fr.size h1)⟩
theorem PF.setRow {a b : World} {g : Nat} {u v : Value} (h : PF a b g u v) {B : Nat} (hB : a.heap.size ≤ B) (cs : Array Value) : PF a (b.setRow B cs) g u v := ⟨h.fr.setRow (.inr hB) cs, h.own⟩
theorem PF.ne {a b : World} {g : Nat} {u v : Value} (h : PF a b g u v) {B : Nat} (hB : B < a.heap.size) (hu : u.ownBlock ≠ some B) : v.ownBlock ≠ some B := fun e => by
  rcases h.own B e with h1 | h1
  · exact hu h1
  · omega
theorem PF.blk {a b : World} {g : Nat} {u v : Value} (h : PF a b g u v) {B : Nat} {t : TypeId} {cs : Array Value} (hb : Blk a B t cs) (hg : B ≠ g) (hu : u.ownBlock ≠ some B) : Blk b B t cs :=
  hb.fr h.fr (by simp only [List.mem_cons, Option.mem_toList]; rintro (h1 | h1); exact hg h1; exact hu h1)
def UpP (w : World) (D : List Nat) (g base : Nat) (v : Value) (T : List (List UInt8)) (r : UpR) (e : Ending) (w' : World) : Prop :=
  e = .returned (.agg (u8s r.d).toArray) ∧ ∃ v', PIs w' D g base v' r.L (T ++ r.N) r.k ∧ PF w w' g v v'
/-- a row of another kind, elsewhere, is set -/
theorem PIs.setRowN {w : World} {D : List Nat} {g base B : Nat} {v : Value} {L T : List (List UInt8)} {lk : Bool} (h : PIs w D g base v L T lk) (hB : B ∈ D) (hg : B ≠ g) (hv : v.ownBlock ≠ some B) (hb : base ≤ B) (xs : Array Value) : PIs (w.setRow B xs) D g base v L T lk := by
  obtain ⟨hd, h1, h2, ⟨A, c, hblk, hc, hD, hA⟩, htx⟩ := h
  have hf : Fr [B] w (w.setRow B xs) := (Fr.refl [B] w).setRow (.inl (by simp)) _
  exact ⟨hd, h1, h2, ⟨A, c, hblk.fr hf (by simp; exact Ne.symm hg), hc, dgIn_keep hD hf (fun hl b off hb' hm => by simp at hm; have := hA hl b off hb'; omega), hA⟩, htx.fr hf (fun x hx => by simp at hx; exact .inl (hx ▸ hB)) (fun k hk hm => by simp at hm; subst hm; exact hv hk)⟩
/-- more blocks are told apart: such as came up since -/
theorem PIs.more {w w' : World} {D E : List Nat} {g base : Nat} {v : Value} {L T : List (List UInt8)} {lk : Bool} (h : PIs w D g base v L T lk) (hf : Fr [] w w') (hg : g ∈ E) (hE : ∀ x ∈ E, x ∈ D ∨ w.heap.size ≤ x) : PIs w' E g base v L T lk := by
  have h' := h.fr hf (by simp)
  obtain ⟨_, h1, h2, h3, ⟨vs, q1, q2, q3⟩⟩ := h'
  obtain ⟨_, _, _, _, ⟨us, p1, p2, p3⟩⟩ := h
  refine ⟨hg, h1, h2, h3, ⟨us, p1, own_fr p2 hf (by simp), fun i t ht => ?_⟩⟩
  obtain ⟨A, c, e1, e2, e3⟩ := p3 i t ht
  refine ⟨A, c, e1, e2.fr hf (by simp), fun hl b off hb => ⟨fun hm => ?_, (e3 hl b off hb).2⟩⟩
  rcases hE b hm with hd | hge
  · exact (e3 hl b off hb).1 hd
  · subst hb
    have := e2.lt hl
    omega
theorem PIs.less {w : World} {D E : List Nat} {g base : Nat} {v : Value} {L T : List (List UInt8)} {lk : Bool} (h : PIs w E g base v L T lk) (hg : g ∈ D) (hE : ∀ x ∈ D, x ∈ E) : PIs w D g base v L T lk := by
  obtain ⟨_, h1, h2, h3, ⟨vs, q1, q2, q3⟩⟩ := h
  exact ⟨hg, h1, h2, h3, ⟨vs, q1, q2, fun i t ht => let ⟨A, c, e1, e2, e3⟩ := q3 i t ht; ⟨A, c, e1, e2, fun hl b off hb => ⟨fun hm => (e3 hl b off hb).1 (hE b hm), (e3 hl b off hb).2⟩⟩⟩⟩
theorem PIs.cell2 {w : World} {D : List Nat} {g base : Nat} {v : Value} {L T : List (List UInt8)} {lk : Bool} (h : PIs w D g base v L T lk) : w.cell? ⟨g, 2, none⟩ = some (.bool lk) := by
  obtain ⟨A, c, hb, _⟩ := h.blk
  rw [hb.cell]; rfl
theorem rd_row {w : World} {B : Nat} {t : TypeId} {x : List UInt8} (h : Blk w B t (u8s x).toArray) : ∀ j v, (u8s x)[j]? = some v → w.cell? ⟨B, 0 + j, none⟩ = some v :=
  fun j v hv => by rw [h.cell, List.getElem?_toArray, Nat.zero_add]; exact hv
theorem own_blk {w w' : World} {l : List UInt8} {A : Option Addr} {c : Nat} (h : w'.ownsRow w.heap.size 5 1 (.slice A l.length c) l.length (u8s l)) : ∀ b off, A = some ⟨b, off, none⟩ → w.heap.size ≤ b := fun b off hA => by
  rcases h.2 with ⟨h1, _⟩ | ⟨g, cap, cur, h1, hb, _⟩
  · injection h1 with h1 _ _; rw [h1] at hA; cases hA
  · injection h1 with h1 _ _; rw [h1] at hA; injection hA with hA; injection hA with hA _ _; omega
/-- a text of the call's own is hashed -/
theorem hash_own (wa w : World) (D : List Nat) (g base : Nat) (v : Value) (L T : List (List UInt8)) (lk : Bool) (hDl : ∀ x ∈ D, x < wa.heap.size) (h : PIs wa D g base v L T lk) (A : Option Addr) (c : Nat) (t : List UInt8) (ho : w.ownsRow wa.heap.size 5 1 (.slice A t.length c) t.length (u8s t)) (hf : Fr [] wa w)
    (hT : T.length ≤ 1000000) (ht : t.length ≤ 1000000) :
    Calls Try.prog 44 #[.pointer (some ⟨g, 0, none⟩), .slice A t.length c] w (fun e w' => e = .returned (.agg (u8s (shaB t)).toArray) ∧ ∃ v', PIs w' D g base v' L (T ++ [t]) lk ∧ PF wa w' g v v') := by
  have hb := own_blk ho
  refine (hash_calls' w D g base v L T lk (h.fr hf (by simp)) A t.length c t rfl (ownB_rd ho) (fun hl b off hA => ⟨?_, ?_⟩) hT ht).mono ?_
  · intro hm
    have := hb b off hA; have := hDl b hm; omega
  · intro e
    have h1 := hb b off hA
    have h2 := h.vlt b e.symm
    omega
  · rintro e w' ⟨rfl, v', h1, h2, h3⟩
    exact ⟨rfl, v', h1, (PF.of0 hf g v).trans ⟨h2, h3⟩⟩
set_option maxHeartbeats 4000000 in
theorem up_calls (k : Nat) : ∀ (n i : Nat) (w : World) (D : List Nat) (g base : Nat) (v : Value) (x : List UInt8) (L T : List (List UInt8)), n ≤ k → (∀ y ∈ D, y < w.heap.size) → PIs w D g base v L T false → 1 ≤ n → n ≤ 1099511627776 → i < n → x.length = 32 → (∀ p ∈ L, p.length = 32) → T.length + L.length ≤ 1000 →
    Calls Try.prog 42 #[.pointer (some ⟨g, 0, none⟩), .int .i64 (n : Int), .int .i64 (i : Int), .agg (u8s x).toArray] w (UpP w D g base v T (upF n i x L)) := by
  induction k with
  | zero => intro n i w D g base v x L T hk hDl h h1; omega
  | succ k ih =>
    intro n i w D g base v x L T hk hDl h h1 hn hi hx hL hT
    obtain ⟨w1, hw1⟩ : ∃ W, w.alloc (.cells (u8s x).toArray 25) = W := ⟨_, rfl⟩
    obtain ⟨w2, hw2⟩ : ∃ W, w1.alloc (.cells (zs 32).toArray 25) = W := ⟨_, rfl⟩
    have s1 : w1.heap.size = w.heap.size + 1 := by rw [← hw1]; simp
    have s2 : w2.heap.size = w.heap.size + 2 := by rw [← hw2]; simp; omega
    have f02 : Fr [] w w2 := hw2 ▸ (hw1 ▸ (Fr.refl [] w).alloc _ : Fr [] w w1).alloc _
    have HX2 := Lib.hid (show Blk w2 w.heap.size 25 (u8s x).toArray from hw2 ▸ (hw1 ▸ Blk.new w _ _ : Blk w1 w.heap.size 25 (u8s x).toArray).alloc _)
    have HR2 := Lib.hid (show Blk w2 w1.heap.size 25 (zs 32).toArray from hw2 ▸ Blk.new w1 _ _)
    have F2 := Lib.hid f02
    have hgl := h.lt
    have hvl := h.vlt
    have HP2 := Lib.hid (h.more f02 (E := w1.heap.size :: D) (by simp [h.hd]) (fun y hy => by simp at hy; rcases hy with rfl | hy; exact .inr (by omega); exact .inl hy))
    have HDL := Lib.hid (show ∀ y ∈ w1.heap.size :: D, y < w2.heap.size from fun y hy => by simp at hy; rcases hy with rfl | hy; omega; have := hDl y hy; omega)
    have HDG := Lib.hid h.hd
    have HLT := Lib.hid hgl
    have HBS := Lib.hid h.hg
    have HXS := Lib.hid (dig_size x hx)
    have HNX := Lib.hid (show v.ownBlock ≠ some w.heap.size from fun e => by have := hvl _ e; omega)
    have HNR := Lib.hid (show v.ownBlock ≠ some w1.heap.size from fun e => by have := hvl _ e; omega)
    have HGX := Lib.hid (show w.heap.size ≠ g by omega)
    have HGR := Lib.hid (show w1.heap.size ≠ g by omega)
    have HS := Lib.hid (And.intro s1 s2)
    have HX := Lib.hid hx; have HL := Lib.hid hL
    have HRX := Lib.hid (rd_row HX2.out)
    by_cases hn1 : n = 1
    · subst hn1
      have HU := Lib.hid (upF_one 1 i x L (by omega))
      have HLF := Lib.hid (leaf_calls w2 x hx)
      have HT := Lib.hid hT
      have HD32 := Lib.hid (shaB_length (leafB x))
      have HDS := Lib.hid (dig_size _ (shaB_length (leafB x)))
      have HFT := Lib.hid (show 0 + (u8s (shaB (leafB x))).length ≤ (zs 32).length by simp [zs_length, shaB_length])
      have HSP := Lib.hid (splice_32 _ (shaB_length (leafB x)))
      have HB := Lib.hid (show (leafB x).length ≤ 1000000 by rw [show leafB x = preB 76 [x] from rfl, preB_leaf x hx]; omega)
      clear ih hk hDl h h1 hn hi hx hL hT f02 hgl hvl s1 s2
      go_enter Try.func42, Try.ntmps42
      go_wp2_with (first
        | (refine box_agg rfl 25 (.tmp 3) rfl (u8s x).toArray rfl ?_; rw [hw1])
        | (refine wpList_alloc_agg rfl 25 rfl (zs 32).toArray arr32_zero ?_; rw [hw2])
        | (refine wpList_load_agg rfl 25 (.tmp 7) rfl w.heap.size 0 rfl (u8s x) _ HRX.out Try.underlying25 rfl HXS.out ?_)
        | (go_at_call 21; (with_reducible refine HLF.out.mono ?_); rintro e w3 ⟨A3, c3, rfl, ho3, f3⟩; have HHS := Lib.hid (hash_own w2 w3 _ g base v L T false HDL.out HP2.out A3 c3 (leafB x) ho3 f3 (by have := HT.out; omega) HB.out); clear ho3 f3)
        | (go_at_call 44; (refine HHS.out.mono ?_); rintro e w4 ⟨rfl, v4, hp4, hf4⟩; have HP4 := Lib.hid hp4; have HF4 := Lib.hid hf4; have HR4 := Lib.hid (hf4.blk HR2.out HGR.out HNR.out); clear hp4 hf4)
        | (refine wpList_store_agg rfl 25 (.tmp 8) (.tmp 18) rfl w1.heap.size 0 rfl (u8s (shaB (leafB x))) rfl (zs 32) 25 HR4.out HFT.out (u8s_one _) HDS.out ?_; rw [HSP.out]))
      have hb6 := HR4.out.setRow_ (u8s (shaB (leafB x))).toArray
      try simp only [Exit.inBlock, Exit.then]
      refine bodyPost_ret (results_cell_row (p := 8) (ty := 25) rfl _ _ w1.heap.size 25 (u8s (shaB (leafB x))).toArray (0, 0) _ rfl hb6 Try.underlying25 rfl (by rw [List.size_toArray]; exact HDS.out)) rfl ?_
      rw [HU.out]
      have hs := HS.out
      have hs4 := HF4.out.fr.size
      exact ⟨rfl, v4, (HP4.out.setRowN (by simp) HGR.out (HF4.out.ne (by omega) HNR.out) (by have := HBS.out; have := HLT.out; omega) _).less HDG.out (by simp; intro y hy; exact .inr hy), ((PF.of0 F2.out g v).trans HF4.out).setRow (by omega) _⟩
    · obtain ⟨_, _, g1, g2, g3⟩ := halfN_spec n (by omega) (by omega)
      have heq := hfN_eq n (by omega) (by omega)
      have HHC := Lib.hid (half_calls w2 n (by omega) (by omega))
      obtain ⟨H, hH⟩ : ∃ H, halfN n = H := ⟨_, rfl⟩
      rw [hH] at g1 g2 g3 HHC heq
      have htk := take_calls w2 _ g base v L T false HP2.out (by omega)
      have hnI : ((n : Int) == 1) = false := by rw [beq_eq_false_iff_ne]; omega
      rcases hLL : L.getLast? with _ | o
      · have hu := upF_none n i x L (by omega) hLL
        have e : takeL L false = (List.replicate 32 0, [], true) := by simp [takeL, hLL]
        rw [e] at htk
        have HTK := Lib.hid (htk.mono (R' := fun e w' => e = .returned (.agg (zs 32).toArray) ∧ PIs w' (w1.heap.size :: D) g base v [] T true ∧ Fr [g] w2 w') fun e w' ⟨a, b, c⟩ => ⟨a, b, c⟩)
        have HU := Lib.hid hu
        clear htk e hu ih hk hDl h h1 hn hi hx hL hT f02 hgl hvl s1 s2 g1 g2 g3 heq hH hLL
        go_enter Try.func42, Try.ntmps42
        go_wp2_with (first
          | (refine box_agg rfl 25 (.tmp 3) rfl (u8s x).toArray rfl ?_; rw [hw1])
          | (refine wpList_alloc_agg rfl 25 rfl (zs 32).toArray arr32_zero ?_; rw [hw2])
          | (go_at_call 22; (with_reducible refine HHC.out.mono ?_); rintro e w3 ⟨rfl, rfl⟩)
          | (go_at_call 43; (with_reducible refine HTK.out.mono ?_); rintro e w3 ⟨rfl, hp3, f3⟩; have HP3 := Lib.hid hp3; have HF3 := Lib.hid (PF.ofg f3 v); have HR3 := Lib.hid ((PF.ofg f3 v).blk HR2.out HGR.out HNR.out); clear hp3 f3)
          | (refine wpList_alloc_agg rfl 25 rfl (zs 32).toArray arr32_zero ?_)
          | (refine wpList_store_agg rfl 25 (.tmp 10) (.tmp 22) rfl w3.heap.size 0 rfl (zs 32) rfl (zs 32) 25 (Blk.new w3 _ _) z32_fit (u8s_one _) z32_size ?_; rw [z32_splice]; obtain ⟨w5, hw5⟩ : ∃ W, (w3.alloc (.cells (zs 32).toArray 25)).setRow w3.heap.size (zs 32).toArray = W := ⟨_, rfl⟩; rw [hw5];
              have F5 := Lib.hid (show Fr [] w3 w5 from hw5 ▸ ((Fr.refl [] w3).alloc _).setRow (.inr (Nat.le_refl _)) _); have HP5 := Lib.hid (HP3.out.fr F5.out (by simp)); have HR5 := Lib.hid (HR3.out.fr F5.out (by simp)); have c2 := HP5.out.cell2; clear hw5)
          | (refine wpList_wanted (v := .agg (zs 32).toArray) (by kernel_rfl) (ex_build0 rfl _) ?_)
          | (refine wpList_store_agg rfl 25 (.tmp 8) (.tmp 27) rfl w1.heap.size 0 rfl (zs 32) rfl (zs 32) 25 HR5.out z32_fit (u8s_one _) z32_size ?_; rw [z32_splice]))
        have hb6 := HR5.out.setRow_ (zs 32).toArray
        try simp only [Exit.inBlock, Exit.then]
        refine bodyPost_ret (results_cell_row (p := 8) (ty := 25) rfl _ _ w1.heap.size 25 (zs 32).toArray (0, 0) _ rfl hb6 Try.underlying25 rfl (by rw [List.size_toArray]; exact z32_size)) rfl ?_
        rw [HU.out]
        have hs := HS.out
        refine ⟨rfl, v, ?_, (((PF.of0 F2.out g v).trans HF3.out).trans (PF.of0 F5.out g v)).setRow (by omega) _⟩
        rw [List.append_nil]
        exact (HP5.out.setRowN (by simp) HGR.out HNR.out (by have := HBS.out; have := HLT.out; omega) _).less HDG.out (by simp; intro y hy; exact .inr hy)
      · have e : takeL L false = (o, L.dropLast, false) := by simp [takeL, hLL]
        rw [e] at htk
        have ho32 := last_all hLL hL
        have hlen1 := last_len hLL
        have HTK := Lib.hid htk
        have HOS := Lib.hid (dig_size o ho32.1); have HFO := Lib.hid (show 0 + (u8s o).length ≤ (zs 32).length by simp [zs_length, ho32.1]); have HSO := Lib.hid (splice_32 o ho32.1)
        clear e
        by_cases hiH : i < H
        · have hu := upF_left n i x L o (by omega) hLL (by rw [heq]; exact hiH)
          rw [heq] at hu
          have hIH := fun (w5 : World) (hd5 : ∀ y ∈ w1.heap.size :: D, y < w5.heap.size) (hp5 : PIs w5 (w1.heap.size :: D) g base v L.dropLast T false) => ih H i w5 (w1.heap.size :: D) g base v x L.dropLast T (by omega) hd5 hp5 (by omega) (by omega) (by omega) hx ho32.2 (by omega)
          have hlen := upF_len H i x L.dropLast
          have hd32 := upF_d32 H i x L.dropLast
          obtain ⟨R, hR⟩ : ∃ R, upF H i x L.dropLast = R := ⟨_, rfl⟩
          rw [hR] at hu hlen hd32 hIH
          have HU := Lib.hid hu; have HIH := Lib.hid hIH
          have HRD := Lib.hid (dig_size R.d hd32); have HFR := Lib.hid (show 0 + (u8s R.d).length ≤ (zs 32).length by simp [zs_length, hd32]); have HSR := Lib.hid (splice_32 R.d hd32)
          have HN0 := Lib.hid (show (preB 78 [R.d, o]).length = 81 from preB_node _ _ (by first | exact hd32 | exact ho32.1) (by first | exact hd32 | exact ho32.1) 78)
          have HTB := Lib.hid (show (T ++ R.N).length ≤ 1000000 by have := hlen.2.1; rw [List.length_append]; omega)
          have HNC := Lib.hid (fun w8 => node_calls w8 R.d o (by first | exact hd32 | exact ho32.1) (by first | exact hd32 | exact ho32.1))
          have HD32 := Lib.hid (shaB_length (nodeB R.d o)); have HDS := Lib.hid (dig_size _ (shaB_length (nodeB R.d o))); have HFT := Lib.hid (show 0 + (u8s (shaB (nodeB R.d o))).length ≤ (zs 32).length by simp [zs_length, shaB_length]); have HSP := Lib.hid (splice_32 _ (shaB_length (nodeB R.d o)))
          have hiI : (i : Int) < (H : Int) := by omega
          clear htk hu hIH hR hlen hd32 ih hk hDl h h1 hn hi hx hL hT f02 hgl hvl s1 s2 g1 g2 g3 heq hH hLL hiH ho32
          go_enter Try.func42, Try.ntmps42
          go_wp2_with (first
            | (refine box_agg rfl 25 (.tmp 3) rfl (u8s x).toArray rfl ?_; rw [hw1])
            | (refine wpList_alloc_agg rfl 25 rfl (zs 32).toArray arr32_zero ?_; rw [hw2])
            | (go_at_call 22; (with_reducible refine HHC.out.mono ?_); rintro e w3 ⟨rfl, rfl⟩)
            | (go_at_call 43; (with_reducible refine HTK.out.mono ?_); rintro e w3 ⟨rfl, hp3, f3⟩; have HP3 := Lib.hid hp3; have HF3 := Lib.hid (PF.ofg f3 v); have HR3 := Lib.hid ((PF.ofg f3 v).blk HR2.out HGR.out HNR.out); have HX3 := Lib.hid ((PF.ofg f3 v).blk HX2.out HGX.out HNX.out); clear hp3 f3 HTK)
            | (refine wpList_alloc_agg rfl 25 rfl (zs 32).toArray arr32_zero ?_)
            | (refine wpList_store_agg rfl 25 (.tmp 10) (.tmp 22) rfl w3.heap.size 0 rfl (u8s o) rfl (zs 32) 25 (Blk.new w3 _ _) HFO.out (u8s_one _) HOS.out ?_; rw [HSO.out]; obtain ⟨w5, hw5⟩ : ∃ W, (w3.alloc (.cells (zs 32).toArray 25)).setRow w3.heap.size (u8s o).toArray = W := ⟨_, rfl⟩; rw [hw5];
                have F5 := Lib.hid (show Fr [] w3 w5 from hw5 ▸ ((Fr.refl [] w3).alloc _).setRow (.inr (Nat.le_refl _)) _); have HP5 := Lib.hid (HP3.out.fr F5.out (by simp)); have HR5 := Lib.hid (HR3.out.fr F5.out (by simp)); have HX5 := Lib.hid (rd_row (HX3.out.fr F5.out (by simp))); have HO5 := Lib.hid (show Blk w5 w3.heap.size 25 (u8s o).toArray from hw5 ▸ (Blk.new w3 _ _).setRow_ _); have c2 := HP5.out.cell2;
                have HD5 := Lib.hid (show ∀ y ∈ w1.heap.size :: D, y < w5.heap.size from fun y hy => Nat.lt_of_lt_of_le (HDL.out y hy) (Nat.le_trans HF3.out.fr.size F5.out.size)); have HI5 := Lib.hid (HIH.out w5 HD5.out HP5.out); clear hw5)
            | (refine wpList_load_agg rfl 25 (.tmp 7) rfl w.heap.size 0 rfl (u8s x) _ HX5.out Try.underlying25 rfl HXS.out ?_)
            | (go_at_call 42; (with_reducible refine HI5.out.mono ?_); rintro e w6 ⟨rfl, v6, hp6, hf6⟩; have HP6 := Lib.hid hp6; have HF6 := Lib.hid hf6; have HR6 := Lib.hid (hf6.blk HR5.out HGR.out HNR.out); have HO6 := Lib.hid (hf6.blk HO5.out (by have := HP3.out.lt; omega) (fun e => by have := HP3.out.vlt _ e; omega)); clear hp6 hf6)
            | (refine wpList_store_agg rfl 25 (.tmp 11) (.tmp 35) rfl w6.heap.size 0 rfl (u8s R.d) rfl (zs 32) 25 (Blk.new w6 _ _) HFR.out (u8s_one _) HRD.out ?_; rw [HSR.out]; obtain ⟨w8, hw8⟩ : ∃ W, (w6.alloc (.cells (zs 32).toArray 25)).setRow w6.heap.size (u8s R.d).toArray = W := ⟨_, rfl⟩; rw [hw8];
                have F8 := Lib.hid (show Fr [] w6 w8 from hw8 ▸ ((Fr.refl [] w6).alloc _).setRow (.inr (Nat.le_refl _)) _); have HP8 := Lib.hid (HP6.out.fr F8.out (by simp)); have HR8 := Lib.hid (HR6.out.fr F8.out (by simp)); have HO8 := Lib.hid (rd_row (HO6.out.fr F8.out (by simp))); have HB8 := Lib.hid (rd_row (show Blk w8 w6.heap.size 25 (u8s R.d).toArray from hw8 ▸ (Blk.new w6 _ _).setRow_ _));
                have HD8 := Lib.hid (show ∀ y ∈ w1.heap.size :: D, y < w8.heap.size from fun y hy => Nat.lt_of_lt_of_le (HD5.out y hy) (Nat.le_trans HF6.out.fr.size F8.out.size)); clear hw8)
            | (refine wpList_load_agg rfl 25 (.tmp 11) rfl w6.heap.size 0 rfl (u8s R.d) _ HB8.out Try.underlying25 rfl HRD.out ?_)
            | (refine wpList_load_agg rfl 25 (.tmp 10) rfl w3.heap.size 0 rfl (u8s o) _ HO8.out Try.underlying25 rfl HOS.out ?_)
            | (go_at_call 23; (with_reducible refine (HNC.out w8).mono ?_); rintro e w9 ⟨A9, c9, rfl, ho9, f9⟩; have HHS := Lib.hid (hash_own w8 w9 _ g base v6 R.L (T ++ R.N) R.k HD8.out HP8.out A9 c9 (nodeB R.d o) ho9 f9 HTB.out (by have := HN0.out; show (preB 78 [R.d, o]).length ≤ 1000000; omega)); clear ho9 f9)
            | (go_at_call 44; (refine HHS.out.mono ?_); rintro e w10 ⟨rfl, v10, hp10, hf10⟩; have HP10 := Lib.hid hp10; have HF10 := Lib.hid hf10; have HR10 := Lib.hid (hf10.blk HR8.out HGR.out (HF6.out.ne HR5.out.lt HNR.out)); clear hp10 hf10)
            | (refine wpList_store_agg rfl 25 (.tmp 8) (.tmp 40) rfl w1.heap.size 0 rfl (u8s (shaB (nodeB R.d o))) rfl (zs 32) 25 HR10.out HFT.out (u8s_one _) HDS.out ?_; rw [HSP.out]))
          have hb6 := HR10.out.setRow_ (u8s (shaB (nodeB R.d o))).toArray
          try simp only [Exit.inBlock, Exit.then]
          refine bodyPost_ret (results_cell_row (p := 8) (ty := 25) rfl _ _ w1.heap.size 25 (u8s (shaB (nodeB R.d o))).toArray (0, 0) _ rfl hb6 Try.underlying25 rfl (by rw [List.size_toArray]; exact HDS.out)) rfl ?_
          rw [HU.out]
          have hs := HS.out
          have pf := (((((PF.of0 F2.out g v).trans HF3.out).trans (PF.of0 F5.out g v)).trans HF6.out).trans (PF.of0 F8.out g v6)).trans HF10.out
          refine ⟨rfl, v10, ?_, pf.setRow (by omega) _⟩
          rw [← List.append_assoc]
          exact (HP10.out.setRowN (by simp) HGR.out (HF10.out.ne HR8.out.lt (HF6.out.ne HR5.out.lt HNR.out)) (by have := HBS.out; have := HLT.out; omega) _).less HDG.out (by simp; intro y hy; exact .inr hy)
        · have hu := upF_right n i x L o (by omega) hLL (by rw [heq]; exact hiH)
          rw [heq] at hu
          have hIH := fun (w5 : World) (hd5 : ∀ y ∈ w1.heap.size :: D, y < w5.heap.size) (hp5 : PIs w5 (w1.heap.size :: D) g base v L.dropLast T false) => ih (n - H) (i - H) w5 (w1.heap.size :: D) g base v x L.dropLast T (by omega) hd5 hp5 (by omega) (by omega) (by omega) hx ho32.2 (by omega)
          rw [show ((n - H : Nat) : Int) = (n : Int) - (H : Int) by omega, show ((i - H : Nat) : Int) = (i : Int) - (H : Int) by omega] at hIH
          have hlen := upF_len (n - H) (i - H) x L.dropLast
          have hd32 := upF_d32 (n - H) (i - H) x L.dropLast
          obtain ⟨R, hR⟩ : ∃ R, upF (n - H) (i - H) x L.dropLast = R := ⟨_, rfl⟩
          rw [hR] at hu hlen hd32 hIH
          have HU := Lib.hid hu; have HIH := Lib.hid hIH
          have HRD := Lib.hid (dig_size R.d hd32); have HFR := Lib.hid (show 0 + (u8s R.d).length ≤ (zs 32).length by simp [zs_length, hd32]); have HSR := Lib.hid (splice_32 R.d hd32)
          have HN0 := Lib.hid (show (preB 78 [o, R.d]).length = 81 from preB_node _ _ (by first | exact hd32 | exact ho32.1) (by first | exact hd32 | exact ho32.1) 78)
          have HTB := Lib.hid (show (T ++ R.N).length ≤ 1000000 by have := hlen.2.1; rw [List.length_append]; omega)
          have HNC := Lib.hid (fun w8 => node_calls w8 o R.d (by first | exact hd32 | exact ho32.1) (by first | exact hd32 | exact ho32.1))
          have HD32 := Lib.hid (shaB_length (nodeB o R.d)); have HDS := Lib.hid (dig_size _ (shaB_length (nodeB o R.d))); have HFT := Lib.hid (show 0 + (u8s (shaB (nodeB o R.d))).length ≤ (zs 32).length by simp [zs_length, shaB_length]); have HSP := Lib.hid (splice_32 _ (shaB_length (nodeB o R.d)))
          have hiI : (H : Int) ≤ (i : Int) := by omega
          have hI2 : (0 : Int) ≤ (i : Int) ∧ (i : Int) < (n : Int) ∧ (n : Int) ≤ 1099511627776 ∧ (1 : Int) ≤ (H : Int) ∧ (H : Int) < (n : Int) := by omega
          clear htk hu hIH hR hlen hd32 ih hk hDl h h1 hn hi hx hL hT f02 hgl hvl s1 s2 g1 g2 g3 heq hH hLL hiH ho32
          go_enter Try.func42, Try.ntmps42
          go_wp2_with (first
            | (refine box_agg rfl 25 (.tmp 3) rfl (u8s x).toArray rfl ?_; rw [hw1])
            | (refine wpList_alloc_agg rfl 25 rfl (zs 32).toArray arr32_zero ?_; rw [hw2])
            | (go_at_call 22; (with_reducible refine HHC.out.mono ?_); rintro e w3 ⟨rfl, rfl⟩)
            | (go_at_call 43; (with_reducible refine HTK.out.mono ?_); rintro e w3 ⟨rfl, hp3, f3⟩; have HP3 := Lib.hid hp3; have HF3 := Lib.hid (PF.ofg f3 v); have HR3 := Lib.hid ((PF.ofg f3 v).blk HR2.out HGR.out HNR.out); have HX3 := Lib.hid ((PF.ofg f3 v).blk HX2.out HGX.out HNX.out); clear hp3 f3 HTK)
            | (refine wpList_alloc_agg rfl 25 rfl (zs 32).toArray arr32_zero ?_)
            | (refine wpList_store_agg rfl 25 (.tmp 10) (.tmp 22) rfl w3.heap.size 0 rfl (u8s o) rfl (zs 32) 25 (Blk.new w3 _ _) HFO.out (u8s_one _) HOS.out ?_; rw [HSO.out]; obtain ⟨w5, hw5⟩ : ∃ W, (w3.alloc (.cells (zs 32).toArray 25)).setRow w3.heap.size (u8s o).toArray = W := ⟨_, rfl⟩; rw [hw5];
                have F5 := Lib.hid (show Fr [] w3 w5 from hw5 ▸ ((Fr.refl [] w3).alloc _).setRow (.inr (Nat.le_refl _)) _); have HP5 := Lib.hid (HP3.out.fr F5.out (by simp)); have HR5 := Lib.hid (HR3.out.fr F5.out (by simp)); have HX5 := Lib.hid (rd_row (HX3.out.fr F5.out (by simp))); have HO5 := Lib.hid (show Blk w5 w3.heap.size 25 (u8s o).toArray from hw5 ▸ (Blk.new w3 _ _).setRow_ _); have c2 := HP5.out.cell2;
                have HD5 := Lib.hid (show ∀ y ∈ w1.heap.size :: D, y < w5.heap.size from fun y hy => Nat.lt_of_lt_of_le (HDL.out y hy) (Nat.le_trans HF3.out.fr.size F5.out.size)); have HI5 := Lib.hid (HIH.out w5 HD5.out HP5.out); clear hw5)
            | (refine wpList_load_agg rfl 25 (.tmp 7) rfl w.heap.size 0 rfl (u8s x) _ HX5.out Try.underlying25 rfl HXS.out ?_)
            | (go_at_call 42; (with_reducible refine HI5.out.mono ?_); rintro e w6 ⟨rfl, v6, hp6, hf6⟩; have HP6 := Lib.hid hp6; have HF6 := Lib.hid hf6; have HR6 := Lib.hid (hf6.blk HR5.out HGR.out HNR.out); have HO6 := Lib.hid (hf6.blk HO5.out (by have := HP3.out.lt; omega) (fun e => by have := HP3.out.vlt _ e; omega)); clear hp6 hf6)
            | (refine wpList_store_agg rfl 25 (.tmp 12) (.tmp 49) rfl w6.heap.size 0 rfl (u8s R.d) rfl (zs 32) 25 (Blk.new w6 _ _) HFR.out (u8s_one _) HRD.out ?_; rw [HSR.out]; obtain ⟨w8, hw8⟩ : ∃ W, (w6.alloc (.cells (zs 32).toArray 25)).setRow w6.heap.size (u8s R.d).toArray = W := ⟨_, rfl⟩; rw [hw8];
                have F8 := Lib.hid (show Fr [] w6 w8 from hw8 ▸ ((Fr.refl [] w6).alloc _).setRow (.inr (Nat.le_refl _)) _); have HP8 := Lib.hid (HP6.out.fr F8.out (by simp)); have HR8 := Lib.hid (HR6.out.fr F8.out (by simp)); have HO8 := Lib.hid (rd_row (HO6.out.fr F8.out (by simp))); have HB8 := Lib.hid (rd_row (show Blk w8 w6.heap.size 25 (u8s R.d).toArray from hw8 ▸ (Blk.new w6 _ _).setRow_ _));
                have HD8 := Lib.hid (show ∀ y ∈ w1.heap.size :: D, y < w8.heap.size from fun y hy => Nat.lt_of_lt_of_le (HD5.out y hy) (Nat.le_trans HF6.out.fr.size F8.out.size)); clear hw8)
            | (refine wpList_load_agg rfl 25 (.tmp 12) rfl w6.heap.size 0 rfl (u8s R.d) _ HB8.out Try.underlying25 rfl HRD.out ?_)
            | (refine wpList_load_agg rfl 25 (.tmp 10) rfl w3.heap.size 0 rfl (u8s o) _ HO8.out Try.underlying25 rfl HOS.out ?_)
            | (go_at_call 23; (with_reducible refine (HNC.out w8).mono ?_); rintro e w9 ⟨A9, c9, rfl, ho9, f9⟩; have HHS := Lib.hid (hash_own w8 w9 _ g base v6 R.L (T ++ R.N) R.k HD8.out HP8.out A9 c9 (nodeB o R.d) ho9 f9 HTB.out (by have := HN0.out; show (preB 78 [o, R.d]).length ≤ 1000000; omega)); clear ho9 f9)
            | (go_at_call 44; (refine HHS.out.mono ?_); rintro e w10 ⟨rfl, v10, hp10, hf10⟩; have HP10 := Lib.hid hp10; have HF10 := Lib.hid hf10; have HR10 := Lib.hid (hf10.blk HR8.out HGR.out (HF6.out.ne HR5.out.lt HNR.out)); clear hp10 hf10)
            | (refine wpList_store_agg rfl 25 (.tmp 8) (.tmp 54) rfl w1.heap.size 0 rfl (u8s (shaB (nodeB o R.d))) rfl (zs 32) 25 HR10.out HFT.out (u8s_one _) HDS.out ?_; rw [HSP.out]))
          have hb6 := HR10.out.setRow_ (u8s (shaB (nodeB o R.d))).toArray
          try simp only [Exit.inBlock, Exit.then]
          refine bodyPost_ret (results_cell_row (p := 8) (ty := 25) rfl _ _ w1.heap.size 25 (u8s (shaB (nodeB o R.d))).toArray (0, 0) _ rfl hb6 Try.underlying25 rfl (by rw [List.size_toArray]; exact HDS.out)) rfl ?_
          rw [HU.out]
          have hs := HS.out
          have pf := (((((PF.of0 F2.out g v).trans HF3.out).trans (PF.of0 F5.out g v)).trans HF6.out).trans (PF.of0 F8.out g v6)).trans HF10.out
          refine ⟨rfl, v10, ?_, pf.setRow (by omega) _⟩
          rw [← List.append_assoc]
          exact (HP10.out.setRowN (by simp) HGR.out (HF10.out.ne HR8.out.lt (HF6.out.ne HR5.out.lt HNR.out)) (by have := HBS.out; have := HLT.out; omega) _).less HDG.out (by simp; intro y hy; exact .inr hy)
end Go.Proofs.Ytmgbimdebhhckaa
