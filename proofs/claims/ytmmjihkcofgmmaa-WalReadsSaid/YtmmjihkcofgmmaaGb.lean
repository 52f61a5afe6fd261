/- The texts ShaD ShaE of this seat, one behind another; what each says stands at its head. -/
import Derived.Test.YtmmjihkcofgmmaaGa

/- SHA-256: a block is turned in. -/
namespace Go.Proofs.Ytmmjihkcofgmmaa
open Go.RowKit

structure V8 where
  a : UInt32
  b : UInt32
  c : UInt32
  d : UInt32
  e : UInt32
  f : UInt32
  g : UInt32
  h : UInt32
def V8.l (v : V8) : List UInt32 := [v.a, v.b, v.c, v.d, v.e, v.f, v.g, v.h]
def one8 (k w : UInt32) (v : V8) : UInt32 := v.h + (rotr v.e 6 ^^^ rotr v.e 11 ^^^ rotr v.e 25) + ((v.e &&& v.f) ^^^ (~~~v.e &&& v.g)) + k + w
def two8 (v : V8) : UInt32 := (rotr v.a 2 ^^^ rotr v.a 13 ^^^ rotr v.a 22) + ((v.a &&& v.b) ^^^ (v.a &&& v.c) ^^^ (v.b &&& v.c))
/-- one round -/
def rnd (k w : UInt32) (v : V8) : V8 := ⟨one8 k w v + two8 v, v.a, v.b, v.c, v.d + one8 k w v, v.e, v.f, v.g⟩
def rnds (b : List UInt8) (v : V8) : Nat → V8
  | 0 => v
  | n + 1 => rnd (Kw.getD n 0) (Wf b n) (rnds b v n)
def addV (v h : V8) : V8 := ⟨v.a + h.a, v.b + h.b, v.c + h.c, v.d + h.d, v.e + h.e, v.f + h.f, v.g + h.g, v.h + h.h⟩
def turnF (h : V8) (b : List UInt8) : V8 := addV (rnds b h 64) h

theorem splice8 (V : V8) (a b c d e f g h : UInt32) : splice (u32s V.l) 0 (u32s [a, b, c, d, e, f, g, h]) = u32s [a, b, c, d, e, f, g, h] := by simp [splice, V8.l]
/-- the eight words, the first k of them added -/
def addK (V H : V8) (k : Nat) : List UInt32 := (addV V H).l.take k ++ V.l.drop k
theorem addK_length (V H : V8) (k : Nat) (hk : k ≤ 8) : (addK V H k).length = 8 := by simp [addK, addV, V8.l]; omega
theorem addK_zero (V H : V8) : addK V H 0 = V.l := by simp [addK]
theorem addK_all (V H : V8) : addK V H 8 = (addV V H).l := by simp [addK, addV, V8.l]
theorem addK_step (V H : V8) (k : Nat) (hk : k < 8) : ∃ x y, (addK V H k)[k]? = some x ∧ H.l[k]? = some y ∧ (addK V H k).set k (x + y) = addK V H (k + 1) := by
  rcases (show k = 0 ∨ k = 1 ∨ k = 2 ∨ k = 3 ∨ k = 4 ∨ k = 5 ∨ k = 6 ∨ k = 7 by omega) with rfl | rfl | rfl | rfl | rfl | rfl | rfl | rfl <;> exact ⟨_, _, rfl, rfl, rfl⟩
theorem build8 (x0 x1 x2 x3 x4 x5 x6 x7 : Int) (w : World) : (Instr.build 116 #[(0, .int .u32 x0), (1, .int .u32 x1), (2, .int .u32 x2), (3, .int .u32 x3), (4, .int .u32 x4), (5, .int .u32 x5), (6, .int .u32 x6), (7, .int .u32 x7)]).run Try.prog w =
    .ok (.agg #[.int .u32 x0, .int .u32 x1, .int .u32 x2, .int .u32 x3, .int .u32 x4, .int .u32 x5, .int .u32 x6, .int .u32 x7]) w := run_build w _ _ _ (by kernel_rfl)
theorem w_not' (a : UInt32) : bits .xor .u32 IntKind.u32.max (a.toNat : Int) = ((~~~a).toNat : Int) := by
  have e : IntKind.u32.max = ((4294967295 : UInt32).toNat : Int) := rfl
  rw [e, w_xor]
  congr 2

theorem one_step (V : V8) (K W : UInt32) :
    ((V.h.toNat : Int) + bits .xor .u32 (bits .xor .u32 ((rotr V.e 6).toNat : Int) ((rotr V.e 11).toNat : Int)) ((rotr V.e 25).toNat : Int) +
      bits .xor .u32 (bits .and .u32 (V.e.toNat : Int) (V.f.toNat : Int)) (bits .and .u32 (bits .xor .u32 IntKind.u32.max (V.e.toNat : Int)) (V.g.toNat : Int)) + (K.toNat : Int) + (W.toNat : Int)) % 4294967296 = ((one8 K W V).toNat : Int) := by
  rw [w_not', w_xor, w_xor, w_and, w_and, w_xor]
  unfold one8
  rw [UInt32.toNat_add, UInt32.toNat_add, UInt32.toNat_add, UInt32.toNat_add]
  omega
theorem two_step (V : V8) :
    (bits .xor .u32 (bits .xor .u32 ((rotr V.a 2).toNat : Int) ((rotr V.a 13).toNat : Int)) ((rotr V.a 22).toNat : Int) +
      bits .xor .u32 (bits .xor .u32 (bits .and .u32 (V.a.toNat : Int) (V.b.toNat : Int)) (bits .and .u32 (V.a.toNat : Int) (V.c.toNat : Int))) (bits .and .u32 (V.b.toNat : Int) (V.c.toNat : Int))) % 4294967296 = ((two8 V).toNat : Int) := by
  rw [w_xor, w_xor, w_and, w_and, w_and, w_xor, w_xor]
  unfold two8
  rw [UInt32.toNat_add]
  omega
theorem rot_q (w : World) (x : UInt32) (n : Nat) (h1 : 1 ≤ n) (h2 : n ≤ 31) (k : Int) (hk : k = -(n : Int)) :
    Calls Try.prog 80 #[.int .u32 (x.toNat : Int), .int .i64 k] w fun e w' => e = .returned (.int .u32 ((rotr x n).toNat : Int)) ∧ w' = w :=
  (rot_calls w x n h1 h2 k hk).mono fun _ _ ⟨h, h'⟩ => ⟨h, h'.symm⟩
theorem v8_cells {w : World} {q : Nat} {t : TypeId} {V : V8} (h : Blk w q t (u32s V.l).toArray) :
    w.cell? ⟨q, 0, none⟩ = some (.int .u32 (V.a.toNat : Int)) ∧ w.cell? ⟨q, 1, none⟩ = some (.int .u32 (V.b.toNat : Int)) ∧ w.cell? ⟨q, 2, none⟩ = some (.int .u32 (V.c.toNat : Int)) ∧
    w.cell? ⟨q, 3, none⟩ = some (.int .u32 (V.d.toNat : Int)) ∧ w.cell? ⟨q, 4, none⟩ = some (.int .u32 (V.e.toNat : Int)) ∧ w.cell? ⟨q, 5, none⟩ = some (.int .u32 (V.f.toNat : Int)) ∧
    w.cell? ⟨q, 6, none⟩ = some (.int .u32 (V.g.toNat : Int)) ∧ w.cell? ⟨q, 7, none⟩ = some (.int .u32 (V.h.toNat : Int)) := by
  refine ⟨?_, ?_, ?_, ?_, ?_, ?_, ?_, ?_⟩ <;> (rw [h.cell]; rfl)
set_option maxHeartbeats 2000000 in
set_option maxRecDepth 100000 in
theorem turn_calls (w : World) (Hx : V8) (A : Option Addr) (c : Nat) (b : List UInt8) (hb : b.length = 64) (hA : Rd w A b) (hc : 64 ≤ c) :
    Calls Try.prog 77 #[.agg (u32s Hx.l).toArray, .slice A 64 c] w (Agg (.agg (u32s (turnF Hx b).l).toArray) w) := by
  have HA := Lib.hid hA
  have HS := Lib.hid (fun (w' : World) (hf : Fr [] w w') => sched_calls w' A c b hb (hA.fr hf (by simp)) hc)
  have HRN := Lib.hid (fun (w' : World) => rounds_calls w')
  clear hA hb
  go_enter Try.func77, Try.ntmps77
  go_wp2_with (first
    | (refine wpList_alloc_agg rfl 116 rfl z8.toArray arr8_zero ?_)
    | (refine wpList_alloc_agg rfl 121 rfl z64.toArray arr64_zero ?_))
  have e0 : (w.alloc (.cells (u32s Hx.l).toArray 116)).heap.size = w.heap.size + 1 := by simp
  obtain ⟨W0, hW0⟩ : ∃ W0, (w.alloc (.cells (u32s Hx.l).toArray 116)).alloc (.cells z8.toArray 116) = W0 := ⟨_, rfl⟩
  have hbh : Blk W0 w.heap.size 116 (u32s Hx.l).toArray := hW0 ▸ (Blk.new w _ _).alloc _
  have hbr : Blk W0 (w.heap.size + 1) 116 z8.toArray := by
    rw [← hW0, ← e0]; exact Blk.new _ _ _
  have hf0 : Fr [] w W0 := hW0 ▸ ((Fr.refl [] w).alloc _).alloc _
  have HBH := Lib.hid hbh; have HBR := Lib.hid hbr; have HF0 := Lib.hid hf0
  have h8 : (u32s Hx.l).length = 8 := by simp [V8.l]
  have H8 := Lib.hid h8
  have h64 : (u32s (st b 64)).length = 64 := by simp [st_length]
  have H64 := Lib.hid h64
  rw [e0, hW0]
  clear hbh hbr hf0 hW0 e0 h8 h64
  refine wp_region_invA (by kernel_rfl) (fun a0 w0 l a w' => l.size = 10 ∧ ∃ x5 x6 x7 t14 t15 t16 t17, a = F7 a0 x5 x6 x7 t14 t15 t16 t17 ∧ RI A c b Hx.l w0 (fun j => l.getD j false) x5 x6 x7 t14 t15 t16 t17 w') ?_ ?_ ?_
  · refine ⟨rfl, undef, undef, undef, undef, undef, undef, undef, by kernel_rfl, RI.start _ (fun j => ?_) ((Fr.refl [] W0).drew)⟩
    exact getD_replicate_false 10 j
  · rintro l a' w' i ⟨hsz, x5, x6, x7, t14, t15, t16, t17, rfl, hri⟩ hmem
    obtain ⟨hfalse, o, ho, hdep⟩ := mem_ready.1 hmem
    have hi : i < 10 := (Array.getElem?_eq_some_iff.1 ho).1
    have hLf := getD_false hfalse
    have hU : (fun j => (l.setIfInBounds i true).getD j false) = upd (fun j => l.getD j false) i := getD_upd (by omega)
    have hsz2 : (l.setIfInBounds i true).size = 10 := by simpa using hsz
    clear hmem hfalse
    rcases (show i = 0 ∨ i = 1 ∨ i = 2 ∨ i = 3 ∨ i = 4 ∨ i = 5 ∨ i = 6 ∨ i = 7 ∨ i = 8 ∨ i = 9 by omega) with rfl | rfl | rfl | rfl | rfl | rfl | rfl | rfl | rfl | rfl
    · refine wpOp_of ho (by obtain rfl := Option.some.inj ho; rfl) ?_
      obtain rfl := Option.some.inj ho
      refine opwp_val (v := .slice A 64 c) (w' := w') (by kernel_rfl) ?_
      refine ⟨hsz2, x5, x6, x7, (.slice A 64 c), t15, t16, t17, by kernel_rfl, ?_⟩
      rw [hU]
      exact hri.v0
    · refine wpOp_of ho (by obtain rfl := Option.some.inj ho; rfl) ?_
      obtain rfl := Option.some.inj ho
      have hd0 := hdep ⟨0, .data⟩ (by simp) rfl
      obtain rfl := hri.r0 hd0
      refine opwp_call 78 #[.slice A 64 c] (by kernel_rfl) (HS.out w' (HF0.out.trans hri.fr)) ?_
      rintro e w2 ⟨rfl, hf⟩
      refine ⟨_, rfl, hsz2, x5, x6, x7, (.slice A 64 c), (.agg (u32s (st b 64)).toArray), t16, t17, by kernel_rfl, ?_⟩
      rw [hU]
      exact (hri.fr' hf).v1
    · refine wpOp_of ho (by obtain rfl := Option.some.inj ho; rfl) ?_
      obtain rfl := Option.some.inj ho
      refine opwp_call 79 #[] (by kernel_rfl) (HRN.out w') ?_
      rintro e w2 ⟨rfl, hf⟩
      refine ⟨_, rfl, hsz2, x5, x6, x7, t14, t15, (.agg (u32s Kw).toArray), t17, by kernel_rfl, ?_⟩
      rw [hU]
      exact (hri.fr' hf).v2
    · refine wpOp_of ho (by obtain rfl := Option.some.inj ho; rfl) ?_
      obtain rfl := Option.some.inj ho
      have hb3 := HBH.out.fr hri.fr (by simp)
      have hcells : ∀ j v, (u32s Hx.l)[j]? = some v → w'.cell? ⟨w.heap.size, 0 + j, none⟩ = some v := fun j v hv => by rw [hb3.cell, List.getElem?_toArray, Nat.zero_add]; exact hv
      have hsz8 : (Try.prog.info? 116).map (·.size) = some (u32s Hx.l).length := by rw [H8.out]; exact arr8_size
      have hr := fun (a : Act) (o : Oper) (K : Act → World → Prop) (Q : Exit → Act → World → Prop) => @opwp_load_agg Try.prog a o w' K Q 116 (.tmp 2) w.heap.size 0 (u32s Hx.l) (.array 8 108)
      refine hr _ _ _ _ ?_ ?_ ?_ ?_ ?_ ?_ ?_
      · kernel_rfl
      · kernel_rfl
      · exact hcells
      · exact Try.underlying116
      · rfl
      · exact hsz8
      refine ⟨hsz2, x5, x6, x7, t14, t15, t16, (.agg (u32s Hx.l).toArray), by kernel_rfl, ?_⟩
      rw [hU]
      exact hri.v3
    · refine wpOp_of ho (by obtain rfl := Option.some.inj ho; rfl) ?_
      obtain rfl := Option.some.inj ho
      refine opwp_val (exec_alloc_agg rfl z64.toArray arr64_zero) ?_
      refine ⟨hsz2, (.pointer (some ⟨w'.heap.size, 0, none⟩)), x6, x7, t14, t15, t16, t17, by kernel_rfl, ?_⟩
      rw [hU]
      exact hri.a4 hLf
    · refine wpOp_of ho (by obtain rfl := Option.some.inj ho; rfl) ?_
      obtain rfl := Option.some.inj ho
      refine opwp_val (exec_alloc_agg rfl z64.toArray arr64_zero) ?_
      refine ⟨hsz2, x5, (.pointer (some ⟨w'.heap.size, 0, none⟩)), x7, t14, t15, t16, t17, by kernel_rfl, ?_⟩
      rw [hU]
      exact hri.a5 hLf
    · refine wpOp_of ho (by obtain rfl := Option.some.inj ho; rfl) ?_
      obtain rfl := Option.some.inj ho
      refine opwp_val (exec_alloc_agg rfl z8.toArray arr8_zero) ?_
      refine ⟨hsz2, x5, x6, (.pointer (some ⟨w'.heap.size, 0, none⟩)), t14, t15, t16, t17, by kernel_rfl, ?_⟩
      rw [hU]
      exact hri.a6 hLf
    · refine wpOp_of ho (by obtain rfl := Option.some.inj ho; rfl) ?_
      obtain rfl := Option.some.inj ho
      have hd4 := hdep ⟨4, .data⟩ (by simp) rfl
      have hd1 := hdep ⟨1, .data⟩ (by simp) rfl
      have ht := hri.r1 hd1
      have hr := fun (a : Act) (o : Oper) (K : Act → World → Prop) (Q : Exit → Act → World → Prop) => @opwp_store_ex Try.prog a o w' K Q 121 (.tmp 5) (.tmp 15) x5 W0.heap.size (u32s (st b 64)) (if l.getD 7 false = true then u32s (st b 64) else z64)
      refine hr _ _ _ _ ?_ ?_ ?_ ?_ ?_ ?_ ?_ ?_
      · kernel_rfl
      · kernel_rfl
      · exact Eq.trans (b := t15) (by kernel_rfl) ht
      · exact hri.r4 hd4
      · split <;> simp [st_length, z64]
      · exact u32s_one _
      · rw [H64.out]; exact arr64_size
      intro q hx
      refine ⟨hsz2, x5, x6, x7, t14, t15, t16, t17, by kernel_rfl, ?_⟩
      rw [hU]
      exact hri.s7 hd4 q hx
    · refine wpOp_of ho (by obtain rfl := Option.some.inj ho; rfl) ?_
      obtain rfl := Option.some.inj ho
      have hd5 := hdep ⟨5, .data⟩ (by simp) rfl
      have hd2 := hdep ⟨2, .data⟩ (by simp) rfl
      have ht := hri.r2 hd2
      have hr := fun (a : Act) (o : Oper) (K : Act → World → Prop) (Q : Exit → Act → World → Prop) => @opwp_store_ex Try.prog a o w' K Q 121 (.tmp 6) (.tmp 16) x6 W0.heap.size (u32s Kw) (if l.getD 8 false = true then u32s Kw else z64)
      refine hr _ _ _ _ ?_ ?_ ?_ ?_ ?_ ?_ ?_ ?_
      · kernel_rfl
      · kernel_rfl
      · exact Eq.trans (b := t16) (by kernel_rfl) ht
      · exact hri.r5 hd5
      · split <;> simp [Kw, z64]
      · exact u32s_one _
      · exact arr64_size
      intro q hx
      refine ⟨hsz2, x5, x6, x7, t14, t15, t16, t17, by kernel_rfl, ?_⟩
      rw [hU]
      exact hri.s8 hd5 q hx
    · refine wpOp_of ho (by obtain rfl := Option.some.inj ho; rfl) ?_
      obtain rfl := Option.some.inj ho
      have hd6 := hdep ⟨6, .data⟩ (by simp) rfl
      have hd3 := hdep ⟨3, .data⟩ (by simp) rfl
      have ht := hri.r3 hd3
      have hr := fun (a : Act) (o : Oper) (K : Act → World → Prop) (Q : Exit → Act → World → Prop) => @opwp_store_ex Try.prog a o w' K Q 116 (.tmp 7) (.tmp 17) x7 W0.heap.size (u32s Hx.l) (if l.getD 9 false = true then u32s Hx.l else z8)
      refine hr _ _ _ _ ?_ ?_ ?_ ?_ ?_ ?_ ?_ ?_
      · kernel_rfl
      · kernel_rfl
      · exact Eq.trans (b := t17) (by kernel_rfl) ht
      · exact hri.r6 hd6
      · split <;> simp [V8.l, z8]
      · exact u32s_one _
      · rw [H8.out]; exact arr8_size
      intro q hx
      refine ⟨hsz2, x5, x6, x7, t14, t15, t16, t17, by kernel_rfl, ?_⟩
      rw [hU]
      exact hri.s9 hd6 q hx
  · rintro l a' w' ⟨hsz, x5, x6, x7, t14, t15, t16, t17, rfl, hri⟩ hready
    have hall := all_done' (by exact hsz) (by kernel_rfl) hready
    obtain ⟨q5, rfl, hq5, h5⟩ := hri.r4 (hall 4 (by decide))
    obtain ⟨q6, rfl, hq6, h6⟩ := hri.r5 (hall 5 (by decide))
    obtain ⟨q7, rfl, hq7, h7⟩ := hri.r6 (hall 6 (by decide))
    obtain rfl := hri.r0 (hall 0 (by decide))
    obtain rfl := hri.r1 (hall 1 (by decide))
    obtain rfl := hri.r2 (hall 2 (by decide))
    obtain rfl := hri.r3 (hall 3 (by decide))
    rw [if_pos (hall 7 (by decide))] at h5
    rw [if_pos (hall 8 (by decide))] at h6
    rw [if_pos (hall 9 (by decide))] at h7
    have hF := hri.fr
    have hw0 := HBH.out.lt
    have hw1 := HBR.out.lt
    have H5 := Lib.hid h5; have H6 := Lib.hid h6; have H7 := Lib.hid h7
    have HF := Lib.hid (HF0.out.trans hF)
    have HH := Lib.hid (HBH.out.fr hF (by simp)); have HO := Lib.hid (HBR.out.fr hF (by simp))
    have hne1 : q7 ≠ w.heap.size := by omega
    have hne2 : q7 ≠ w.heap.size + 1 := by omega
    have hq7' : w.heap.size ≤ q7 := by omega
    have HN := Lib.hid hne1; have HN2 := Lib.hid hne2; have HQ := Lib.hid hq7'
    have h57 := h5.ne_ h7 (by decide)
    have h67 := h6.ne_ h7 (by decide)
    have H57 := Lib.hid h57; have H67 := Lib.hid h67
    clear hri hall hready hsz h5 h6 h7 hF hw0 hw1 hne1 hne2 h57 h67 hq7' hq5 hq6 hq7 HS HRN HA HF0 HBH HBR
    clear l
    simp only [F7, Act.put, List.setIfInBounds_toArray, List.set_cons_zero, List.set_cons_succ]
    go_wp2
    go_loopg [18] 64 (fun gg u wr => ∃ k : Nat, k ≤ 64 ∧ gg = 64 - k ∧ u = .int .i64 k ∧ Blk wr q7 116 (u32s (rnds b Hx k).l).toArray ∧ Blk wr q5 121 (u32s (st b 64)).toArray ∧ Blk wr q6 121 (u32s Kw).toArray ∧
      Blk wr w.heap.size 116 (u32s Hx.l).toArray ∧ Blk wr (w.heap.size + 1) 116 z8.toArray ∧ Fr [] w wr)
    case atStart => exact ⟨0, by omega, by omega, rfl, H7.out, H5.out, H6.out, HH.out, HO.out, HF.out⟩
    case round =>
      obtain ⟨k, hk, rfl, rfl, h7, h5, h6, hh, ho, hf⟩ := hrel
      obtain ⟨V, hV⟩ : ∃ V, rnds b Hx k = V := ⟨_, rfl⟩
      rw [hV] at h7
      have HV := Lib.hid hV
      have K7 := Lib.hid h7; have K5 := Lib.hid h5; have K6 := Lib.hid h6; have KH := Lib.hid hh; have KO := Lib.hid ho; have KF := Lib.hid hf
      by_cases hlt : k < 64
      · obtain ⟨c0, c1, c2, c3, c4, c5, c6, c7⟩ := v8_cells h7
        have R6 := Lib.hid (fun w' => rot_q w' V.e 6 (by omega) (by omega) (-6) rfl)
        have R11 := Lib.hid (fun w' => rot_q w' V.e 11 (by omega) (by omega) (-11) rfl)
        have R25 := Lib.hid (fun w' => rot_q w' V.e 25 (by omega) (by omega) (-25) rfl)
        have R2 := Lib.hid (fun w' => rot_q w' V.a 2 (by omega) (by omega) (-2) rfl)
        have R13 := Lib.hid (fun w' => rot_q w' V.a 13 (by omega) (by omega) (-13) rfl)
        have R22 := Lib.hid (fun w' => rot_q w' V.a 22 (by omega) (by omega) (-22) rfl)
        have hkI : (0 : Int) ≤ (k : Int) ∧ (k : Int) < 64 := by omega
        clear h7 h5 h6 hh ho hf hV
        go_wp2_with fail
        go_quiet ((first
            | (go_at_call 80; with_reducible exact Calls.quiet_of_same (R6.out _))
            | (go_at_call 80; with_reducible exact Calls.quiet_of_same (R11.out _))
            | (go_at_call 80; with_reducible exact Calls.quiet_of_same (R25.out _))))
        clear c0 c1 c2 c3 c4 c5 c6 c7
        have d7 := K7.out.drewN nq; have d5 := K5.out.drewN nq; have d6 := K6.out.drewN nq; have dh := KH.out.drewN nq; have dO := KO.out.drewN nq; have dF := KF.out.drewN nq
        obtain ⟨w5, hw5⟩ : ∃ w5, wr.drewN nq = w5 := ⟨_, rfl⟩
        rw [hw5] at d7 d5 d6 dh dO dF ⊢
        clear hw5 K7 K5 K6 KH KO KF
        obtain ⟨c0, c1, c2, c3, c4, c5, c6, c7⟩ := v8_cells d7
        have ck : w5.cell? ⟨q6, k, none⟩ = some (.int .u32 ((Kw.getD k 0).toNat : Int)) := by
          rw [d6.cell, List.getElem?_toArray, u32s_get]
          have : k < Kw.length := by have : Kw.length = 64 := rfl; omega
          simp [this, u32v]
        have cw : w5.cell? ⟨q5, k, none⟩ = some (.int .u32 ((Wf b k).toNat : Int)) := by
          rw [d5.cell, List.getElem?_toArray, u32s_get, st_get b 64 k hlt hlt]; rfl
        obtain ⟨Kk, hKk⟩ : ∃ x, Kw.getD k 0 = x := ⟨_, rfl⟩
        obtain ⟨Wk, hWk⟩ : ∃ x, Wf b k = x := ⟨_, rfl⟩
        rw [hKk] at ck; rw [hWk] at cw
        have HKk := Lib.hid hKk; have HWk := Lib.hid hWk
        have ik := fun w' => run_index_arr (P := Try.prog) (b := q6) Try.underlying121 sizeW hlt (k : Int) rfl w'
        have iw := fun w' => run_index_arr (P := Try.prog) (b := q5) Try.underlying121 sizeW hlt (k : Int) rfl w'
        have K7 := Lib.hid d7; have K5 := Lib.hid d5; have K6 := Lib.hid d6; have KH := Lib.hid dh; have KO := Lib.hid dO; have KF := Lib.hid dF
        clear d7 d5 d6 dh dO dF hKk hWk
        go_wp2_with fail
        go_quiet (fail)
        go_wp2_with fail
        rw [one_step V Kk Wk]
        obtain ⟨one, hone⟩ : ∃ x, one8 Kk Wk V = x := ⟨_, rfl⟩
        rw [hone]
        have HONE := Lib.hid hone
        clear c0 c1 c2 c3 c4 c5 c6 c7 ck cw ik iw hone
        have d7 := K7.out.drewN nq; have d5 := K5.out.drewN nq; have d6 := K6.out.drewN nq; have dh := KH.out.drewN nq; have dO := KO.out.drewN nq; have dF := KF.out.drewN nq
        obtain ⟨w6, hw6⟩ : ∃ w6, w5.drewN nq = w6 := ⟨_, rfl⟩
        rw [hw6] at d7 d5 d6 dh dO dF ⊢
        clear hw6 K7 K5 K6 KH KO KF
        obtain ⟨c0, c1, c2, c3, c4, c5, c6, c7⟩ := v8_cells d7
        have K7 := Lib.hid d7; have K5 := Lib.hid d5; have K6 := Lib.hid d6; have KH := Lib.hid dh; have KO := Lib.hid dO; have KF := Lib.hid dF
        clear d7 d5 d6 dh dO dF
        go_quiet ((first
            | (go_at_call 80; with_reducible exact Calls.quiet_of_same (R2.out _))
            | (go_at_call 80; with_reducible exact Calls.quiet_of_same (R13.out _))
            | (go_at_call 80; with_reducible exact Calls.quiet_of_same (R22.out _))))
        clear c0 c1 c2 c3 c4 c5 c6 c7
        have d7 := K7.out.drewN nq; have d5 := K5.out.drewN nq; have d6 := K6.out.drewN nq; have dh := KH.out.drewN nq; have dO := KO.out.drewN nq; have dF := KF.out.drewN nq
        obtain ⟨w7, hw7⟩ : ∃ w7, w6.drewN nq = w7 := ⟨_, rfl⟩
        rw [hw7] at d7 d5 d6 dh dO dF ⊢
        clear hw7 K7 K5 K6 KH KO KF
        obtain ⟨c0, c1, c2, c3, c4, c5, c6, c7⟩ := v8_cells d7
        have K7 := Lib.hid d7; have K5 := Lib.hid d5; have K6 := Lib.hid d6; have KH := Lib.hid dh; have KO := Lib.hid dO; have KF := Lib.hid dF
        clear d7 d5 d6 dh dO dF
        obtain ⟨two, htwo⟩ : ∃ x, two8 V = x := ⟨_, rfl⟩
        have E2 := two_step V
        rw [htwo] at E2
        have HTWO := Lib.hid htwo
        have W1 := w_add one two
        have W2 := w_add V.d one
        have HSP := Lib.hid (splice8 V (one + two) V.a V.b V.c (V.d + one) V.e V.f V.g)
        have HFIT := Lib.hid (show 0 + (u32s [one + two, V.a, V.b, V.c, V.d + one, V.e, V.f, V.g]).length ≤ (u32s V.l).length by simp [V8.l])
        have HSZ := Lib.hid (show (Try.prog.info? 116).map (·.size) = some (u32s [one + two, V.a, V.b, V.c, V.d + one, V.e, V.f, V.g]).length from arr8_size)
        clear htwo R6 R11 R25 R2 R13 R22
        have HE2 := Lib.hid E2; have HW1 := Lib.hid W1; have HW2 := Lib.hid W2
        clear E2 W1 W2
        go_upto_region 9 with fail
        rw [HE2.out]
        have HL := Lib.hid (show ([.int .u32 (((one.toNat : Int) + (two.toNat : Int)) % 4294967296), .int .u32 (V.a.toNat : Int), .int .u32 (V.b.toNat : Int), .int .u32 (V.c.toNat : Int), .int .u32 (((V.d.toNat : Int) + (one.toNat : Int)) % 4294967296), .int .u32 (V.e.toNat : Int), .int .u32 (V.f.toNat : Int), .int .u32 (V.g.toNat : Int)] : List Value) = u32s [one + two, V.a, V.b, V.c, V.d + one, V.e, V.f, V.g] by rw [HW1.out, HW2.out]; rfl)
        go_wp2_with (first
          | (refine wpList_val (o := ⟨some 106, _, _, _, _, _⟩) rfl (.agg ([.int .u32 (((one.toNat : Int) + (two.toNat : Int)) % 4294967296), .int .u32 (V.a.toNat : Int), .int .u32 (V.b.toNat : Int), .int .u32 (V.c.toNat : Int), .int .u32 (((V.d.toNat : Int) + (one.toNat : Int)) % 4294967296), .int .u32 (V.e.toNat : Int), .int .u32 (V.f.toNat : Int), .int .u32 (V.g.toNat : Int)] : List Value).toArray) w7 (by kernel_rfl) ?_; rw [HL.out])
          | (refine wpList_store_agg rfl 116 (.tmp 7) (.tmp 106) rfl q7 0 rfl (u32s [one + two, V.a, V.b, V.c, V.d + one, V.e, V.f, V.g]) rfl (u32s V.l) 116 K7.out HFIT.out (u32s_one _) HSZ.out ?_))
        rw [HSP.out]
        go_roundg (64 - (k + 1))
        case measure => omega
        case rel =>
          have e1 : rnds b Hx (k + 1) = ⟨one + two, V.a, V.b, V.c, V.d + one, V.e, V.f, V.g⟩ := by
            rw [rnds, HV.out, HKk.out, HWk.out, rnd, HONE.out, HTWO.out]
          refine ⟨k + 1, by omega, rfl, by go_num, ?_, K5.out.setRow_far H57.out _, K6.out.setRow_far H67.out _, KH.out.setRow_far (Ne.symm HN.out) _, KO.out.setRow_far (Ne.symm HN2.out) _, KF.out.setRow (.inr HQ.out) _⟩
          rw [e1]
          exact K7.out.setRow_ _
      · obtain rfl : k = 64 := by omega
        clear h7 h5 h6 hh ho hf hV
        go_wp2_with fail
        obtain ⟨wo, rfl⟩ : ∃ wo : World, wo = wr := ⟨_, rfl⟩
        go_loopg [108] 8 (fun gg u wr => ∃ k : Nat, k ≤ 8 ∧ gg = 8 - k ∧ u = .int .i64 k ∧ Blk wr q7 116 (u32s (addK V Hx k)).toArray ∧
          Blk wr w.heap.size 116 (u32s Hx.l).toArray ∧ Blk wr (w.heap.size + 1) 116 z8.toArray ∧ Fr [] w wr)
        case atStart => exact ⟨0, by omega, by omega, rfl, by rw [addK_zero]; exact K7.out, KH.out, KO.out, KF.out⟩
        case round =>
          obtain ⟨k, hk, rfl, rfl, h7, hh, ho, hf⟩ := hrel
          have J7 := Lib.hid h7; have JH := Lib.hid hh; have JO := Lib.hid ho; have JF := Lib.hid hf
          by_cases hlt : k < 8
          · obtain ⟨x, y, hx, hy, hs⟩ := addK_step V Hx k hlt
            have cv : wr.cell? ⟨q7, k, none⟩ = some (.int .u32 (x.toNat : Int)) := by rw [h7.cell, List.getElem?_toArray, u32s_get, hx]; rfl
            have ch : wr.cell? ⟨w.heap.size, k, none⟩ = some (.int .u32 (y.toNat : Int)) := by rw [hh.cell, List.getElem?_toArray, u32s_get, hy]; rfl
            have hz := h7.frozen k
            have ik := fun w' => run_index_arr (P := Try.prog) (b := q7) Try.underlying116 sizeW hlt (k : Int) rfl w'
            have ih := fun w' => run_index_arr (P := Try.prog) (b := w.heap.size) Try.underlying116 sizeW hlt (k : Int) rfl w'
            have HS := Lib.hid hs
            have HW := Lib.hid (w_add x y)
            have hkI : (0 : Int) ≤ (k : Int) ∧ (k : Int) < 8 := by omega
            clear h7 hh ho hf hx hy hs
            go_wp2_with fail
            go_still_tail 8, (by kernel_rfl)
            change wpList _ _ _ _ _ _
            go_wp2
            go_roundg (8 - (k + 1))
            case measure => omega
            case rel =>
              refine ⟨k + 1, by omega, rfl, by go_num, ?_, (JH.out.far (p := ⟨q7, k, none⟩) (Ne.symm HN.out) _).drew, (JO.out.far (p := ⟨q7, k, none⟩) (Ne.symm HN2.out) _).drew, (JF.out.setCell (.inr HQ.out) _).drew⟩
              have hb2 := (J7.out.set_ k (.int .u32 ((x + y).toNat : Int))).drew
              have e : (u32s (addK V Hx k)).toArray.setIfInBounds k (.int .u32 ((x + y).toNat : Int)) = (u32s (addK V Hx (k + 1))).toArray := by
                rw [← HS.out]; simp [u32s, List.map_set, u32v]
              rw [e] at hb2
              rw [HW.out]
              exact hb2
          · obtain rfl : k = 8 := by omega
            have e8 : addK V Hx 8 = (turnF Hx b).l := by rw [addK_all, turnF, HV.out]
            rw [e8] at h7
            have h88 : (u32s (turnF Hx b).l).length = 8 := by simp [V8.l]
            have HL := Lib.hid h88
            have HC := Lib.hid (show ∀ j v, (u32s (turnF Hx b).l)[j]? = some v → wr.cell? ⟨q7, 0 + j, none⟩ = some v from fun j v hv => by rw [h7.cell, List.getElem?_toArray, Nat.zero_add]; exact hv)
            have hspl : splice z8 0 (u32s (turnF Hx b).l) = u32s (turnF Hx b).l := by simp [splice, z8, V8.l]
            have HSP := Lib.hid hspl
            clear h7 hh ho hf h88 hspl e8
            go_wp2_with (first
              | (refine wpList_load_agg rfl 116 (.tmp 7) rfl q7 0 rfl (u32s (turnF Hx b).l) _ HC.out Try.underlying116 rfl (by rw [HL.out]; exact arr8_size) ?_)
              | (refine wpList_store_agg rfl 116 (.tmp 4) (.tmp 120) rfl (w.heap.size + 1) 0 rfl (u32s (turnF Hx b).l) rfl z8 116 JO.out (by rw [HL.out]; decide) (u32s_one _) (by rw [HL.out]; exact arr8_size) ?_))
            have hb6 := JO.out.setRow_ (splice z8 0 (u32s (turnF Hx b).l)).toArray
            rw [HSP.out] at hb6 ⊢
            refine bodyPost_ret (results_cell_row (p := 4) (ty := 116) rfl _ _ (w.heap.size + 1) 116 (u32s (turnF Hx b).l).toArray (0, 0) _ rfl hb6 Try.underlying116 rfl (by rw [List.size_toArray, HL.out]; exact arr8_size)) rfl ?_
            exact ⟨rfl, JF.out.setRow (.inr (by omega)) _⟩
end Go.Proofs.Ytmmjihkcofgmmaa

/- SHA-256: a number's eight bytes; the state. -/
namespace Go.Proofs.Ytmmjihkcofgmmaa
open Go.RowKit
set_option maxRecDepth 100000
set_option linter.unusedVariables false

/-- a number's eight bytes, the highest first -/
def eightB (n : Nat) : List UInt8 := (List.range 8).map fun k => UInt8.ofNat (n / 256 ^ (7 - k))
theorem eightB_length (n : Nat) : (eightB n).length = 8 := by simp [eightB]
theorem eight_byte (u k : Nat) (hk : k < 8) : (u : Int) / 2 ^ (56 - 8 * k) % 256 = ((UInt8.ofNat (u / 256 ^ (7 - k))).toNat : Int) := by
  have e : (2 : Nat) ^ (56 - 8 * k) = 256 ^ (7 - k) := by
    rw [show (256 : Nat) = 2 ^ 8 from rfl, ← Nat.pow_mul]; congr 1; omega
  rw [UInt8.toNat_ofNat']
  have e2 : ((2 : Int) ^ (56 - 8 * k)) = ((256 ^ (7 - k) : Nat) : Int) := by rw [← e]; simp
  rw [e2]
  omega
theorem eightB_step (n k : Nat) (hk : k < 8) : (eightB n).take k ++ [UInt8.ofNat (n / 256 ^ (7 - k))] = (eightB n).take (k + 1) := by
  rw [List.take_succ_eq_append_getElem (by simp [eightB]; omega)]
  congr 2
  simp [eightB]

set_option maxHeartbeats 1000000 in
theorem eight_calls (w : World) (n : Nat) (hn : n < 18446744073709551616) : Calls Try.prog 74 #[.int .u64 (n : Int)] w (OwnB w (eightB n)) := by
  go_enter Try.func74, Try.ntmps74
  go_wp2
  go_loopg [3, 4] 8 (fun gg v u wr => ∃ k : Nat, k ≤ 8 ∧ gg = 8 - k ∧ u = .int .i64 (56 - 8 * (k : Int)) ∧ wr.ownsRow w.heap.size 5 1 v k (u8s ((eightB n).take k)) ∧ Fr [] w wr)
  case atStart => exact ⟨0, by omega, by omega, rfl, World.ownsRow_nil _ _ _ _, Fr.refl _ _⟩
  case round =>
    obtain ⟨k, hk, rfl, rfl, ho, hf⟩ := hrel
    have HO := Lib.hid ho; have HF := Lib.hid hf
    clear ho hf
    by_cases hlt : k < 8
    · have HY := Lib.hid (eight_byte n k hlt)
      obtain ⟨y, hy⟩ : ∃ y, UInt8.ofNat (n / 256 ^ (7 - k)) = y := ⟨_, rfl⟩
      rw [hy] at HY
      have HE := Lib.hid hy
      clear hy
      have HO1 := Lib.hid (HO.out.alloc (.cells #[u8v y] 5))
      have HF1 := Lib.hid (HF.out.alloc (.cells #[u8v y] 5))
      have hb1 : k + 1 ≤ 1000000000 := by omega
      have hs1 : w.heap.size ≤ (wr.alloc (.cells #[u8v y] 5)).heap.size := HF1.out.size
      have HS1 := Lib.hid hs1
      clear hs1
      go_wp2_with (at_builtin; rw [HY.out]; refine appU8 rfl (.tmp 9) (.tmp 14) rfl w.heap.size _ k _ rfl HO1.out _ 1 1 [y] rfl rfl (rd_one wr y _) hb1 HS1.out ?_; intro A1 c1 w1 ho1 hf1 hb1; have HO2 := Lib.hid ho1; have HF2 := Lib.hid hf1; clear ho1 hf1 hb1)
      go_roundg (8 - (k + 1))
      case measure => omega
      case rel =>
        have e := eightB_step n k hlt
        rw [HE.out] at e
        refine ⟨k + 1, by omega, rfl, by congr 1; omega, by rw [← e]; exact HO2.out, HF1.out.trans' HF2.out (fun x hx => ?_)⟩
        simp only [Option.mem_toList] at hx
        exact .inr (HO.out.lt x hx).1
    · obtain rfl : k = 8 := by omega
      go_wp2
      go_ret
      refine OwnB.mk' (n := 8) ?_ HF.out
      have := HO.out
      rwa [List.take_of_length_le (by simp [eightB])] at this
end Go.Proofs.Ytmmjihkcofgmmaa
