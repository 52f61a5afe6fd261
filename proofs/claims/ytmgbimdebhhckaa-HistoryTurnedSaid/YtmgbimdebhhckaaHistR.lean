/- History: what a proof says. -/
import Derived.Test.YtmgbimdebhhckaaHistQ
import Derived.Test.YtmgbimdebhhckaaDig2
namespace Go.Proofs.Ytmgbimdebhhckaa
open Go.RowKit
set_option linter.unusedVariables false

theorem dgIn_lt {w : World} {A : Option Addr} {ds : List (List UInt8)} (h : DgIn w A ds) (hl : 0 < ds.length) : ∀ b off, A = some ⟨b, off, none⟩ → b < w.heap.size := fun b off hA => by
  obtain ⟨_, b', off', hA', hb, _⟩ := h 0 ds[0] (by simp)
  rw [hA'] at hA
  injection hA with hA; injection hA with hA _ _; omega
/-- a proof begins -/
theorem PIs.begin (w0 w : World) (D : List Nat) (hd : w.heap.size ∈ D) (hf : Fr [] w0 w) (A : Option Addr) (c : Nat) (L : List (List UInt8)) (hc : L.length ≤ c) (hD : DgIn w0 A L) :
    PIs (w.alloc (.cells #[.slice A L.length c, .slice none 0 0, .bool false] 54)) D w.heap.size w0.heap.size (.slice none 0 0) L [] false :=
  ⟨hd, hf.size, by simp [Value.ownBlock], ⟨A, c, Blk.new _ _ _, hc, hD.fr (hf.alloc _), dgIn_lt hD⟩, ⟨[], rfl, World.ownsRow_nil _ _ _ _, fun i t ht => by simp at ht⟩⟩
theorem PIs.cell1 {w : World} {D : List Nat} {g base : Nat} {v : Value} {L T : List (List UInt8)} {lk : Bool} (h : PIs w D g base v L T lk) : w.cell? ⟨g, 1, none⟩ = some v := by
  obtain ⟨A, c, hb, _⟩ := h.blk
  rw [hb.cell]; rfl
theorem good_calls (w : World) (D : List Nat) (g base : Nat) (v : Value) (L T : List (List UInt8)) (lk : Bool) (h : PIs w D g base v L T lk) :
    Calls Try.prog 32 #[.pointer (some ⟨g, 0, none⟩)] w fun e w' => e = .returned (.bool (!lk && decide (L.length = 0))) ∧ w = w' := by
  obtain ⟨_, _, _, ⟨A, c, hblk, _⟩, _⟩ := h
  obtain ⟨n, hn⟩ : ∃ n, L.length = n := ⟨_, rfl⟩
  rw [hn] at hblk ⊢
  have c0 : w.cell? ⟨g, 0, none⟩ = some (.slice A n c) := by rw [hblk.cell]; rfl
  have c2 : w.cell? ⟨g, 2, none⟩ = some (.bool lk) := by rw [hblk.cell]; rfl
  clear hblk hn
  cases lk with
  | true =>
    go_enter Try.func32, Try.ntmps32
    go_wp2
    go_ret
    exact ⟨rfl, rfl⟩
  | false =>
    by_cases h0 : n = 0
    · subst h0
      go_enter Try.func32, Try.ntmps32
      go_wp2
      go_ret
      exact ⟨rfl, rfl⟩
    · have hz : ((n : Int) == 0) = false := by rw [beq_eq_false_iff_ne]; omega
      go_enter Try.func32, Try.ntmps32
      go_wp2
      go_ret
      exact ⟨by simp [h0], rfl⟩
def inOk (n i : Int) : Prop := 1 ≤ n ∧ n ≤ 1099511627776 ∧ 0 ≤ i ∧ i < n
instance (n i : Int) : Decidable (inOk n i) := by unfold inOk; exact inferInstance
def InPathNo (w : World) (e : Ending) (w' : World) : Prop := e = .returned (.tuple #[.pointer none, .agg (zs 32).toArray]) ∧ Fr [] w w'
def InPathYes (w : World) (D : List Nat) (r : UpR) (e : Ending) (w' : World) : Prop := ∃ g v', e = .returned (.tuple #[.pointer (some ⟨g, 0, none⟩), .agg (u8s r.d).toArray]) ∧ PIs w' (g :: D) g w.heap.size v' r.L r.N r.k ∧ Fr [] w w'
theorem results_tmp_cell_row {P : Program} {fn : Func} {u p : Tmp} {ty : TypeId} (h : fn.results = #[.tmp u, .cell p ty]) (tmps : Array Value) (w : World) (g : Nat) (t : TypeId) (cs : Array Value) (d : TypeDesc)
    (hp : tmps.getD p undef = .pointer (some ⟨g, 0, none⟩)) (hg : Blk w g t cs)
    (hu : P.underlying ty = some d) (hd : (match d with | .struct _ | .array _ _ => true | _ => false) = true) (hi : (P.info? ty).map (·.size) = some cs.size) :
    (results fn tmps).run P w = .ok (.tuple #[tmps.getD u undef, .agg cs]) w := by
  have hp' : tmps[p]?.getD undef = .pointer (some ⟨g, 0, none⟩) := by simpa using hp
  simp [results, h, hp', asAddr, run_loadVar_row w g t ty cs (0, 0) d hg hu hd hi, Sem.run_bind, Result.andThen]
set_option maxHeartbeats 2000000 in
theorem inPath_no (w : World) (n i : Int) (x : List UInt8) (A : Option Addr) (m c : Nat) (h : ¬ inOk n i) :
    Calls Try.prog 31 #[.int .i64 n, .int .i64 i, .agg (u8s x).toArray, .slice A m c] w (InPathNo w) := by
  obtain ⟨w1, hw1⟩ : ∃ W, w.alloc (.cells (u8s x).toArray 25) = W := ⟨_, rfl⟩
  obtain ⟨w2, hw2⟩ : ∃ W, w1.alloc (.cells (zs 32).toArray 25) = W := ⟨_, rfl⟩
  have f02 : Fr [] w w2 := hw2 ▸ (hw1 ▸ (Fr.refl [] w).alloc _ : Fr [] w w1).alloc _
  have HB := Lib.hid (show Blk w2 w1.heap.size 25 (zs 32).toArray from hw2 ▸ Blk.new _ _ _)
  have s1 : w1.heap.size = w.heap.size + 1 := by rw [← hw1]; simp
  have HF := Lib.hid (And.intro f02 s1)
  clear f02 s1
  have hcase : n < 1 ∨ (1 ≤ n ∧ 1099511627776 < n) ∨ (1 ≤ n ∧ n ≤ 1099511627776 ∧ i < 0) ∨ (1 ≤ n ∧ n ≤ 1099511627776 ∧ 0 ≤ i ∧ n ≤ i) := by unfold inOk at h; omega
  clear h
  rcases hcase with h | ⟨h, h2⟩ | ⟨h, h2, h3⟩ | ⟨h, h2, h3, h4⟩ <;> (
    go_enter Try.func31, Try.ntmps31
    go_wp2_with (first
      | (refine box_agg rfl 25 (.tmp 2) rfl (u8s x).toArray rfl ?_; rw [hw1])
      | (refine wpList_alloc_agg rfl 25 rfl (zs 32).toArray arr32_zero ?_; rw [hw2])
      | (refine wpList_wanted (v := .agg (zs 32).toArray) (by kernel_rfl) (ex_build0 rfl _) ?_)
      | (refine wpList_store_agg rfl 25 (.tmp 9) (.tmp 26) rfl w1.heap.size 0 rfl (zs 32) rfl (zs 32) 25 HB.out z32_fit (u8s_one _) z32_size ?_; rw [z32_splice]))
    have hb6 := HB.out.setRow_ (zs 32).toArray
    try simp only [Exit.inBlock, Exit.then]
    refine bodyPost_ret (results_tmp_cell_row (u := 8) (p := 9) (ty := 25) rfl _ _ w1.heap.size 25 (zs 32).toArray _ rfl hb6 Try.underlying25 rfl (by rw [List.size_toArray]; exact z32_size)) rfl ?_
    exact ⟨rfl, HF.out.1.setRow (.inr (by have := HF.out.2; omega)) _⟩)
theorem PF.fr0 {w0 w w' : World} {g : Nat} {v' : Value} (h : PF w w' g (.slice none 0 0) v') (hf : Fr [] w0 w) (hg : w0.heap.size ≤ g) : Fr [] w0 w' :=
  hf.trans' h.fr (fun x hx => by simp [Value.ownBlock] at hx; exact .inr (by omega))
set_option maxHeartbeats 2000000 in
theorem inPath_yes (w : World) (D : List Nat) (hDw : ∀ y ∈ D, y < w.heap.size) (n i : Nat) (x : List UInt8) (hx : x.length = 32) (A : Option Addr) (m c : Nat) (L : List (List UInt8)) (hm : L.length = m) (hc : m ≤ c) (hD : DgIn w A L) (hL : m ≤ 1000) (h : inOk n i) :
    Calls Try.prog 31 #[.int .i64 (n : Int), .int .i64 (i : Int), .agg (u8s x).toArray, .slice A m c] w (InPathYes w D (upF n i x L)) := by
  obtain ⟨w1, hw1⟩ : ∃ W, w.alloc (.cells (u8s x).toArray 25) = W := ⟨_, rfl⟩
  obtain ⟨w2, hw2⟩ : ∃ W, w1.alloc (.cells (zs 32).toArray 25) = W := ⟨_, rfl⟩
  obtain ⟨w3, hw3⟩ : ∃ W, w2.alloc (.cells #[.slice A m c, .slice none 0 0, .bool false] 54) = W := ⟨_, rfl⟩
  have s1 : w1.heap.size = w.heap.size + 1 := by rw [← hw1]; simp
  have s2 : w2.heap.size = w.heap.size + 2 := by rw [← hw2]; simp; omega
  have s3 : w3.heap.size = w.heap.size + 3 := by rw [← hw3]; simp; omega
  have f02 : Fr [] w w2 := hw2 ▸ (hw1 ▸ (Fr.refl [] w).alloc _ : Fr [] w w1).alloc _
  have f03 : Fr [] w w3 := hw3 ▸ f02.alloc _
  have HX3 := Lib.hid (rd_row (show Blk w3 w.heap.size 25 (u8s x).toArray from hw3 ▸ (hw2 ▸ (hw1 ▸ Blk.new w _ _ : Blk w1 w.heap.size 25 (u8s x).toArray).alloc _ : Blk w2 w.heap.size 25 (u8s x).toArray).alloc _))
  have HB3 := Lib.hid (show Blk w3 w1.heap.size 25 (zs 32).toArray from hw3 ▸ (hw2 ▸ Blk.new w1 _ _ : Blk w2 w1.heap.size 25 (zs 32).toArray).alloc _)
  have hp := PIs.begin w w2 (w2.heap.size :: w1.heap.size :: D) (by simp) f02 A c L (by omega) hD
  rw [hm, hw3] at hp
  have HDL := Lib.hid (show ∀ y ∈ w2.heap.size :: w1.heap.size :: D, y < w3.heap.size from fun y hy => by simp at hy; rcases hy with rfl | rfl | hy; omega; omega; have := hDw y hy; omega)
  have h32 := upF_d32 n i x L
  have hup := up_calls n n i w3 (w2.heap.size :: w1.heap.size :: D) w2.heap.size w.heap.size (.slice none 0 0) x L [] (Nat.le_refl _) HDL.out hp (by unfold inOk at h; omega) (by unfold inOk at h; omega) (by unfold inOk at h; omega) hx (fun p hp' => by
    obtain ⟨j, hj, rfl⟩ := List.getElem_of_mem hp'
    exact (hD j _ (List.getElem?_eq_getElem hj)).1) (by simp; omega)
  obtain ⟨R, hR⟩ : ∃ R, upF n i x L = R := ⟨_, rfl⟩
  rw [hR] at hup h32 ⊢
  have HUP := Lib.hid hup
  have HRF := Lib.hid (digF R.d h32); have HXS := Lib.hid (dig_size x hx)
  have HF := Lib.hid (And.intro f03 (And.intro s1 (And.intro s2 s3)))
  have hI : (1 : Int) ≤ (n : Int) ∧ (n : Int) ≤ 1099511627776 ∧ (0 : Int) ≤ (i : Int) ∧ (i : Int) < (n : Int) := h
  clear hDw hup h32 hR f02 f03 s1 s2 s3 hp h hx hm hc hD hL
  go_enter Try.func31, Try.ntmps31
  go_wp2_with (first
    | (refine box_agg rfl 25 (.tmp 2) rfl (u8s x).toArray rfl ?_; rw [hw1])
    | (refine wpList_alloc_agg rfl 25 rfl (zs 32).toArray arr32_zero ?_; rw [hw2])
    | (refine box_agg rfl 54 (.tmp 28) rfl #[.slice A m c, .slice none 0 0, .bool false] rfl ?_; rw [hw3])
    | (refine wpList_load_agg rfl 25 (.tmp 6) rfl w.heap.size 0 rfl (u8s x) _ HX3.out Try.underlying25 rfl HXS.out ?_)
    | (go_at_call 42; (with_reducible refine HUP.out.mono ?_); rintro e w4 ⟨rfl, v4, hp4, hf4⟩; have HP4 := Lib.hid hp4; have HF4 := Lib.hid hf4; have HB4 := Lib.hid (hf4.blk HB3.out (by have := HF.out.2; omega) (by simp [Value.ownBlock])); clear hp4 hf4)
    | (refine wpList_store_agg rfl 25 (.tmp 9) (.tmp 35) rfl w1.heap.size 0 rfl (u8s R.d) rfl (zs 32) 25 HB4.out HRF.out.1 (u8s_one _) HRF.out.2.1 ?_; rw [HRF.out.2.2]))
  have hb6 := HB4.out.setRow_ (u8s R.d).toArray
  try simp only [Exit.inBlock, Exit.then]
  refine bodyPost_ret (results_tmp_cell_row (u := 8) (p := 9) (ty := 25) rfl _ _ w1.heap.size 25 (u8s R.d).toArray _ rfl hb6 Try.underlying25 rfl (by rw [List.size_toArray]; exact HRF.out.2.1)) rfl ?_
  have hs := HF.out.2
  have hne := HF4.out.ne (B := w1.heap.size) (by omega) (by simp [Value.ownBlock])
  refine ⟨w2.heap.size, v4, rfl, ?_, ((HF4.out.fr0 HF.out.1 (by omega))).setRow (.inr (by omega)) _⟩
  exact (HP4.out.setRowN (by simp) (by omega) hne (by omega) _).less (by simp) (by simp; intro y hy; exact .inr (.inr hy))
def inB (root : List UInt8) (n i : Int) (x : List UInt8) (L : List (List UInt8)) : Bool :=
  decide (inOk n i) && ((!(upF n.toNat i.toNat x L).k && decide ((upF n.toNat i.toNat x L).L.length = 0)) && ((upF n.toNat i.toNat x L).d == root))
/-- texts in a row of slices of the call's own -/
def OwnT (w : World) (D : List Nat) (N : List (List UInt8)) (e : Ending) (w' : World) : Prop := ∃ v, e = .returned v ∧ TxRow w' v D w.heap.size N ∧ Fr [] w w'
def ppN (n i : Int) (x : List UInt8) (L : List (List UInt8)) : List (List UInt8) := if inOk n i then (upF n.toNat i.toNat x L).N else []
theorem TxRow.less {w : World} {v : Value} {D E : List Nat} {b base : Nat} {T : List (List UInt8)} (h : TxRow w v E base T) (hb : b ≤ base) (hD : ∀ y ∈ D, y ∈ E) : TxRow w v D b T := by
  obtain ⟨vs, h1, h2, h3⟩ := h
  exact ⟨vs, h1, own_mono h2 hb, fun i t ht => let ⟨A, c, e1, e2, e3⟩ := h3 i t ht; ⟨A, c, e1, e2, fun hl b off hb => ⟨fun hm => (e3 hl b off hb).1 (hD b hm), (e3 hl b off hb).2⟩⟩⟩
theorem TxRow.nil (w : World) (D : List Nat) (base : Nat) : TxRow w (.slice none 0 0) D base [] := ⟨[], rfl, World.ownsRow_nil _ _ _ _, fun i t ht => by simp at ht⟩
set_option maxHeartbeats 2000000 in
theorem pp_calls (w : World) (D : List Nat) (hDw : ∀ y ∈ D, y < w.heap.size) (n i : Int) (x : List UInt8) (hx : x.length = 32) (A : Option Addr) (m c : Nat) (L : List (List UInt8)) (hm : L.length = m) (hc : m ≤ c) (hD : DgIn w A L) (hL : m ≤ 1000) :
    Calls Try.prog 16 #[.int .i64 n, .int .i64 i, .agg (u8s x).toArray, .slice A m c] w (OwnT w D (ppN n i x L)) := by
  obtain ⟨w1, hw1⟩ : ∃ W, w.alloc (.cells (u8s x).toArray 25) = W := ⟨_, rfl⟩
  have f01 : Fr [] w w1 := hw1 ▸ (Fr.refl [] w).alloc _
  have HX1 := Lib.hid (rd_row (show Blk w1 w.heap.size 25 (u8s x).toArray from hw1 ▸ Blk.new w _ _))
  have HXS := Lib.hid (dig_size x hx)
  have F1 := Lib.hid f01
  by_cases h : inOk n i
  · obtain ⟨n, rfl⟩ := Int.eq_ofNat_of_zero_le (show 0 ≤ n by unfold inOk at h; omega)
    obtain ⟨i, rfl⟩ := Int.eq_ofNat_of_zero_le (show 0 ≤ i by unfold inOk at h; omega)
    have hin := inPath_yes w1 D (fun y hy => Nat.lt_of_lt_of_le (hDw y hy) f01.size) n i x hx A m c L hm hc (hD.fr f01) hL h
    have h32 := upF_d32 n i x L
    have hN : ppN (n : Int) (i : Int) x L = (upF n i x L).N := by unfold ppN; rw [if_pos h]; rfl
    rw [hN]
    obtain ⟨R, hR⟩ : ∃ R, upF n i x L = R := ⟨_, rfl⟩
    rw [hR] at hin h32 ⊢
    have HIN := Lib.hid hin; have HRF := Lib.hid (digF R.d h32)
    clear hDw hin h32 hN hR h hx hm hc hD hL f01
    go_enter Try.func16, Try.ntmps16
    go_wp2_with (first
      | (refine box_agg rfl 25 (.tmp 2) rfl (u8s x).toArray rfl ?_; rw [hw1])
      | (refine wpList_load_agg rfl 25 (.tmp 6) rfl w.heap.size 0 rfl (u8s x) _ HX1.out Try.underlying25 rfl HXS.out ?_)
      | (go_at_call 31; (with_reducible refine HIN.out.mono ?_); rintro e w2 ⟨g, v2, rfl, hp2, f2⟩; have HP2 := Lib.hid hp2; have F2 := Lib.hid f2; clear hp2 f2)
      | (refine wpList_alloc_agg rfl 25 rfl (zs 32).toArray arr32_zero ?_)
      | (refine wpList_store_agg rfl 25 (.tmp 10) (.tmp 18) rfl w2.heap.size 0 rfl (u8s R.d) rfl (zs 32) 25 (Blk.new w2 _ _) HRF.out.1 (u8s_one _) HRF.out.2.1 ?_; rw [HRF.out.2.2]; obtain ⟨w3, hw3⟩ : ∃ W, (w2.alloc (.cells (zs 32).toArray 25)).setRow w2.heap.size (u8s R.d).toArray = W := ⟨_, rfl⟩; rw [hw3];
          have F3 := Lib.hid (show Fr [] w2 w3 from hw3 ▸ ((Fr.refl [] w2).alloc _).setRow (.inr (Nat.le_refl _)) _); have HP3 := Lib.hid (HP2.out.fr F3.out (by simp)); have c1 := HP3.out.cell1; clear hw3))
    go_ret
    exact ⟨v2, rfl, HP3.out.tx.less F1.out.size (by simp; intro y hy; exact .inr hy), (F1.out.trans F2.out).trans F3.out⟩
  · have HIN := Lib.hid (inPath_no w1 n i x A m c h)
    have hN : ppN n i x L = [] := by unfold ppN; rw [if_neg h]
    rw [hN]
    clear hN h hx hm hc hD hL f01
    go_enter Try.func16, Try.ntmps16
    go_wp2_with (first
      | (refine box_agg rfl 25 (.tmp 2) rfl (u8s x).toArray rfl ?_; rw [hw1])
      | (refine wpList_load_agg rfl 25 (.tmp 6) rfl w.heap.size 0 rfl (u8s x) _ HX1.out Try.underlying25 rfl HXS.out ?_)
      | (go_at_call 31; (with_reducible refine HIN.out.mono ?_); rintro e w2 ⟨rfl, f2⟩; have F2 := Lib.hid f2; clear f2)
      | (refine wpList_alloc_agg rfl 25 rfl (zs 32).toArray arr32_zero ?_)
      | (refine wpList_store_agg rfl 25 (.tmp 10) (.tmp 18) rfl w2.heap.size 0 rfl (zs 32) rfl (zs 32) 25 (Blk.new w2 _ _) z32_fit (u8s_one _) z32_size ?_; rw [z32_splice]))
    go_ret
    exact ⟨_, rfl, TxRow.nil _ _ _, ((F1.out.trans F2.out).alloc _).setRow (.inr (by have := F1.out.size; have := F2.out.size; omega)) _⟩
end Go.Proofs.Ytmgbimdebhhckaa
