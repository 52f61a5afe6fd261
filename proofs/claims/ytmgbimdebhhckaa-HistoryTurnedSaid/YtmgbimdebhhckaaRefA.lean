/- SHA-256, the document's: a block is turned in. -/
import Derived.Test.YtmgbimdebhhckaaShaH
namespace Go.Proofs.Ytmgbimdebhhckaa
open Go.RowKit

/-- where a slice's words lie -/
def RdU (w : World) (A : Option Addr) (l : List UInt32) : Prop := 0 < l.length → ∃ b off, A = some ⟨b, off, none⟩ ∧ ∀ j x, l[j]? = some x → w.cell? ⟨b, off + j, none⟩ = some (u32v x)
theorem RdU.fr {S : List Nat} {w w' : World} {A : Option Addr} {l : List UInt32} (h : RdU w A l) (hf : Fr S w w') (hS : ∀ b off, A = some ⟨b, off, none⟩ → b ∉ S) : RdU w' A l := by
  intro hl
  obtain ⟨b, off, hA, hc⟩ := h hl
  refine ⟨b, off, hA, fun j x hx => ?_⟩
  have h1 := hc j x hx
  rw [hf.cell (p := ⟨b, off + j, none⟩) (World.block_lt_of_cell? _ _ h1) (hS b off hA)]
  exact h1
theorem RdU.lt {w : World} {l : List UInt32} {b off : Nat} (h : RdU w (some ⟨b, off, none⟩) l) (hl : 0 < l.length) : b < w.heap.size := by
  obtain ⟨b', off', hA, hc⟩ := h hl
  cases hA
  have := hc 0 l[0] (by simp)
  exact World.block_lt_of_cell? _ _ this
theorem ix_sl {P : Program} {t e : TypeId} (ht : P.underlying t = some (.slice e)) (hi : (P.info? e).map (·.size) = some 1) {b off n c j d : Nat} (hj : j < n) (hd : off + j = d) (i : Int) (hij : i = (j : Int)) (w : World) :
    (Instr.indexAt t (.slice (some ⟨b, off, none⟩) n c) (.int .i64 i)).run P w = .ok (.pointer (some ⟨b, d, none⟩)) w := by
  subst hij hd
  simpa using run_index_slice' (P := P) w ht hi (n := n) (c := c) rfl hj
/-- the first n bytes of word i, joined -/
def pN (b : List UInt8) (i : Nat) : Nat → Nat
  | 0 => 0
  | n + 1 => 256 * pN b i n + byteW b (4 * i + n)
theorem byteW_lt (b : List UInt8) (i : Nat) : byteW b i < 256 := UInt8.toNat_lt _
theorem pN_lt (b : List UInt8) (i : Nat) : ∀ n, pN b i n < 256 ^ n
  | 0 => by simp [pN]
  | n + 1 => by
    have h1 := pN_lt b i n
    have h2 := byteW_lt b (4 * i + n)
    rw [pN, Nat.pow_succ]
    omega
theorem pN_four (b : List UInt8) (i : Nat) : UInt32.ofNat (pN b i 4) = wordB b i := by
  unfold wordB
  simp only [pN, Nat.mul_zero, Nat.zero_add, Nat.add_zero]
  congr 1
  omega
theorem st_part0 (b : List UInt8) (i : Nat) (hi : i < 64) : (st b i).set i (UInt32.ofNat (pN b i 0)) = st b i := by
  apply List.ext_getElem?
  intro j
  rw [List.getElem?_set]
  by_cases h : i = j
  · subst h
    simp [hi, st, pN]
  · simp [h]
theorem st_part4 (b : List UInt8) (i : Nat) (hi : i < 16) : (st b i).set i (UInt32.ofNat (pN b i 4)) = st b (i + 1) := by
  rw [pN_four, ← st_set]
  congr 1
  rw [Wf]; simp [hi]
theorem ref_mk (w : World) : (Instr.makeSlice 63 (.int .i64 64) (.int .i64 64)).run Try.prog w = .ok (.slice (some ⟨w.heap.size, 0, none⟩) 64 64) (w.alloc (.cells (u32s (st [] 0)).toArray 68)) := by
  have h := run_make_n (P := Try.prog) 63 68 (.int .u32 0) 1 4 Try.underlying63 (by kernel_rfl) 64 (by omega) (by omega) w
  have e : madeCells (Value.int .u32 0).cells (64 * 1) = (u32s (st [] 0)).toArray := by rw [st_zero]; kernel_rfl
  rw [e] at h
  exact h
theorem st_nil (b : List UInt8) : st [] 0 = st b 0 := by rw [st_zero, st_zero]
theorem turned_q (w : World) (x : UInt32) (n : Nat) (h1 : 1 ≤ n) (h2 : n ≤ 31) :
    Calls Try.prog 54 #[.int .u32 (x.toNat : Int), .int .u64 (n : Int)] w fun e w' => e = .returned (.int .u32 ((rotr x n).toNat : Int)) ∧ w' = w :=
  (turned_calls w x n h1 h2).mono fun _ _ ⟨h, h'⟩ => ⟨h, h'.symm⟩
theorem infoU32 : (Try.prog.info? 68).map (fun i => (i.zero, i.size, i.bytes)) = some (some (.int .u32 0), 1, 4) := by kernel_rfl
theorem own_gen {w : World} {base : Nat} {e : TypeId} {v : Value} {n : Nat} {xs : List Value} (h : w.ownsRow base e 1 v n xs) (h0 : 0 < n) :
    ∃ g c tl, v = .slice (some ⟨g, 0, none⟩) n c ∧ base ≤ g ∧ n ≤ c ∧ Blk w g e (xs ++ tl).toArray := by
  rcases h.2 with ⟨_, h1⟩ | ⟨g, cap, cur, rfl, hb, hg, hnc, _, hsz, htk⟩
  · omega
  · refine ⟨g, cap, cur.toList.drop n, rfl, hb, hnc, ?_⟩
    unfold Blk
    rw [hg, ← htk]
    simp
theorem v8_cellsT {w : World} {q : Nat} {t : TypeId} {V : V8} {tl : List Value} (h : Blk w q t (u32s V.l ++ tl).toArray) :
    w.cell? ⟨q, 0, none⟩ = some (.int .u32 (V.a.toNat : Int)) ∧ w.cell? ⟨q, 1, none⟩ = some (.int .u32 (V.b.toNat : Int)) ∧ w.cell? ⟨q, 2, none⟩ = some (.int .u32 (V.c.toNat : Int)) ∧
    w.cell? ⟨q, 3, none⟩ = some (.int .u32 (V.d.toNat : Int)) ∧ w.cell? ⟨q, 4, none⟩ = some (.int .u32 (V.e.toNat : Int)) ∧ w.cell? ⟨q, 5, none⟩ = some (.int .u32 (V.f.toNat : Int)) ∧
    w.cell? ⟨q, 6, none⟩ = some (.int .u32 (V.g.toNat : Int)) ∧ w.cell? ⟨q, 7, none⟩ = some (.int .u32 (V.h.toNat : Int)) := by
  refine ⟨?_, ?_, ?_, ?_, ?_, ?_, ?_, ?_⟩ <;> (rw [h.cell]; rfl)
def chF (V : V8) : UInt32 := (V.e &&& V.f) ^^^ (~~~V.e &&& V.g)
def majF (V : V8) : UInt32 := (V.a &&& V.b) ^^^ (V.a &&& V.c) ^^^ (V.b &&& V.c)
theorem ch_val (V : V8) : bits .xor .u32 (bits .and .u32 (V.e.toNat : Int) (V.f.toNat : Int)) (bits .and .u32 (4294967295 - (V.e.toNat : Int)) (V.g.toNat : Int)) = ((chF V).toNat : Int) := by
  rw [w_not, w_and, w_and, w_xor]; rfl
theorem maj_val (V : V8) : bits .xor .u32 (bits .xor .u32 (bits .and .u32 (V.a.toNat : Int) (V.b.toNat : Int)) (bits .and .u32 (V.a.toNat : Int) (V.c.toNat : Int))) (bits .and .u32 (V.b.toNat : Int) (V.c.toNat : Int)) = ((majF V).toNat : Int) := by
  rw [w_and, w_and, w_and, w_xor, w_xor]; rfl
theorem one_val (V : V8) (K W : UInt32) :
    ((V.h.toNat : Int) + bits .xor .u32 (bits .xor .u32 ((rotr V.e 6).toNat : Int) ((rotr V.e 11).toNat : Int)) ((rotr V.e 25).toNat : Int) + ((chF V).toNat : Int) + (K.toNat : Int) + (W.toNat : Int)) % 4294967296 = ((one8 K W V).toNat : Int) := by
  rw [w_xor, w_xor]
  unfold one8 chF
  rw [UInt32.toNat_add, UInt32.toNat_add, UInt32.toNat_add, UInt32.toNat_add]
  omega
theorem one_valR (V : V8) (K W : UInt32) :
    (((V.h.toNat : Int) + bits .xor .u32 (bits .xor .u32 ((rotr V.e 6).toNat : Int) ((rotr V.e 11).toNat : Int)) ((rotr V.e 25).toNat : Int) + ((chF V).toNat : Int) + (K.toNat : Int)) % 4294967296 + (W.toNat : Int)) % 4294967296 = ((one8 K W V).toNat : Int) := by
  rw [← one_val]
  omega
theorem two_val (V : V8) :
    (bits .xor .u32 (bits .xor .u32 ((rotr V.a 2).toNat : Int) ((rotr V.a 13).toNat : Int)) ((rotr V.a 22).toNat : Int) + ((majF V).toNat : Int)) % 4294967296 = ((two8 V).toNat : Int) := by
  rw [w_xor, w_xor]
  unfold two8 majF
  rw [UInt32.toNat_add]
  omega
theorem word_stepR (b : List UInt8) (n : Nat) :
    (((Wf b n).toNat : Int) + bits .xor .u32 (bits .xor .u32 ((rotr (Wf b (n + 1)) 7).toNat : Int) ((rotr (Wf b (n + 1)) 18).toNat : Int)) (((Wf b (n + 1)).toNat : Int) / 8 % 4294967296) + ((Wf b (n + 9)).toNat : Int) +
      bits .xor .u32 (bits .xor .u32 ((rotr (Wf b (n + 14)) 17).toNat : Int) ((rotr (Wf b (n + 14)) 19).toNat : Int)) (((Wf b (n + 14)).toNat : Int) / 1024 % 4294967296)) % 4294967296 = ((Wf b (n + 16)).toNat : Int) := by
  have h1 := u32_lt (Wf b (n + 1))
  have h2 := u32_lt (Wf b (n + 14))
  rw [show ((Wf b (n + 1)).toNat : Int) / 8 % 4294967296 = ((Wf b (n + 1)).toNat : Int) / 8 by omega, show ((Wf b (n + 14)).toNat : Int) / 1024 % 4294967296 = ((Wf b (n + 14)).toNat : Int) / 1024 by omega]
  exact word_step b n
def RefT (w : World) (V : V8) (e : Ending) (w' : World) : Prop :=
  ∃ g c tl, e = .returned (.slice (some ⟨g, 0, none⟩) 8 c) ∧ Blk w' g 68 (u32s V.l ++ tl).toArray ∧ 8 ≤ c ∧ w.heap.size ≤ g ∧ Fr [] w w'
set_option maxHeartbeats 8000000 in
set_option maxRecDepth 100000 in
theorem rturn_calls (w : World) (Hx : V8) (HA : Option Addr) (hc : Nat) (hH : RdU w HA Hx.l) (A : Option Addr) (c : Nat) (b : List UInt8) (hb : b.length = 64) (hA : Rd w A b) (KA : Option Addr) (kc : Nat) (hK : RdU w KA Kw) :
    Calls Try.prog 50 #[.slice HA 8 hc, .slice A 64 c, .slice KA 64 kc] w (RefT w (turnF Hx b)) := by
  have MK := Lib.hid ref_mk
  have HB := Lib.hid hb; have HRA := Lib.hid hA; have HRH := Lib.hid hH; have HRK := Lib.hid hK
  have hb1 := Blk.new w 68 (u32s (st [] 0)).toArray
  rw [st_nil b] at hb1
  have hf1 := (Fr.refl [] w).alloc (.cells (u32s (st b 0)).toArray 68)
  have HB1 := Lib.hid hb1; have HF1 := Lib.hid hf1
  obtain ⟨bA, oA, hAe, hAc⟩ := hA (by omega)
  subst hAe
  obtain ⟨bK, oK, hKe, hKc⟩ := hK (by decide)
  subst hKe
  obtain ⟨bH, oH, hHe, hHc⟩ := hH (by simp [V8.l])
  subst hHe
  clear hb hA hH hK hb1 hf1 hAc hKc hHc
  have mk := MK.out w
  rw [st_nil b] at mk
  go_enter Try.func50, Try.ntmps50
  go_wp2_with fail
  obtain ⟨W1, hW1⟩ : ∃ W1, w.alloc (.cells (u32s (st b 0)).toArray 68) = W1 := ⟨_, rfl⟩
  have HW1 := Lib.hid hW1
  rw [hW1] at HB1 HF1 ⊢
  clear hW1 mk MK
  go_loopg [8] 16 (fun gg u wr => ∃ i : Nat, i ≤ 16 ∧ gg = 16 - i ∧ u = .int .i64 i ∧ Blk wr w.heap.size 68 (u32s (st b i)).toArray ∧ Fr [] w wr)
  case atStart => exact ⟨0, by omega, by omega, rfl, HB1.out, HF1.out⟩
  case round =>
    obtain ⟨i, hi, rfl, rfl, hbl, hfr⟩ := hrel
    have HBl := Lib.hid hbl; have HFr := Lib.hid hfr
    by_cases hlt : i < 16
    · have hiI : (0 : Int) ≤ (i : Int) ∧ (i : Int) < 16 := by omega
      rw [← st_part0 b i (by omega)] at hbl
      have HBp := Lib.hid hbl
      clear hbl hfr
      go_wp2_with fail
      obtain ⟨wo, rfl⟩ : ∃ wo : World, wo = wr := ⟨_, rfl⟩
      go_loopg [9] 4 (fun gg u wr => ∃ n : Nat, n ≤ 4 ∧ gg = 4 - n ∧ u = .int .i64 n ∧ Blk wr w.heap.size 68 (u32s ((st b i).set i (UInt32.ofNat (pN b i n)))).toArray ∧ Fr [] w wr)
      case atStart => exact ⟨0, by omega, by omega, rfl, HBp.out, HFr.out⟩
      case round =>
        obtain ⟨n, hn, rfl, rfl, hbl, hfr⟩ := hrel
        have JB := Lib.hid hbl; have JF := Lib.hid hfr
        by_cases hln : n < 4
        · obtain ⟨P, hP⟩ : ∃ P, pN b i n = P := ⟨_, rfl⟩
          obtain ⟨y, hy⟩ : ∃ y, byteW b (4 * i + n) = y := ⟨_, rfl⟩
          have hPl : P < 16777216 := by
            have h1 := pN_lt b i n
            have h2 : (256 : Nat) ^ n ≤ 256 ^ 3 := Nat.pow_le_pow_right (by omega) (by omega)
            rw [hP] at h1; omega
          have hyl : y < 256 := hy ▸ byteW_lt b _
          have cw : wr.cell? ⟨w.heap.size, i, none⟩ = some (.int .u32 (P : Int)) := by
            rw [hbl.cell, List.getElem?_toArray, u32s_get, List.getElem?_set, if_pos rfl, if_pos (by rw [st_length]; omega), hP]
            simp only [Option.map_some, u32v, UInt32.toNat_ofNat']
            rw [Nat.mod_eq_of_lt (by omega)]
          have cb : wr.cell? ⟨bA, oA + (4 * i + n), none⟩ = some (.int .u8 (y : Int)) := by
            obtain ⟨b', o', he, hcc⟩ := HRA.out.fr hfr (by simp) (by have := HB.out; omega)
            cases he
            have := HB.out
            rw [hcc (4 * i + n) b[4 * i + n] (by simp), ← hy]
            simp [u8v, byteW, List.getD, show 4 * i + n < b.length by omega]
          have iw := fun w' => ix_sl (P := Try.prog) (b := w.heap.size) (off := 0) (n := 64) (c := 64) (d := i) Try.underlying63 sizeW (show i < 64 by omega) (by omega) (i : Int) rfl w'
          have ib := fun w' => ix_sl (P := Try.prog) (b := bA) (off := oA) (n := 64) (c := c) (d := oA + (4 * i + n)) Try.underlying45 sizeU8s (show 4 * i + n < 64 by omega) rfl (4 * (i : Int) + (n : Int)) (by omega) w'
          have hz := hbl.frozen i
          have m0 : IntKind.i64.wrap (4 * (i : Int)) = 4 * (i : Int) := by rw [IntKind.wrap_i64]; omega
          have m1 : IntKind.i64.wrap (4 * (i : Int) + (n : Int)) = 4 * (i : Int) + (n : Int) := by rw [IntKind.wrap_i64]; omega
          have q0 : IntKind.u32.wrap (y : Int) = (y : Int) := by rw [IntKind.wrap_u32']; omega
          have q1 : IntKind.u32.wrap (256 * (P : Int)) = 256 * (P : Int) := by rw [IntKind.wrap_u32']; omega
          have q2 : IntKind.u32.wrap (256 * (P : Int) + (y : Int)) = 256 * (P : Int) + (y : Int) := by rw [IntKind.wrap_u32']; omega
          have hnI : (0 : Int) ≤ (n : Int) ∧ (n : Int) < 4 := by omega
          have HPE := Lib.hid hP; have HYE := Lib.hid hy; have HPL := Lib.hid hPl; have HYL := Lib.hid hyl
          clear hbl hfr hP hy hPl hyl
          go_wp2_with fail
          go_still_tail 17, (by kernel_rfl)
          change wpList _ _ _ _ _ _
          go_wp2
          go_roundg (4 - (n + 1))
          case measure => omega
          case rel =>
            have e1 : (256 * (P : Int) + (y : Int)) = ((UInt32.ofNat (pN b i (n + 1))).toNat : Int) := by
              rw [UInt32.toNat_ofNat', Nat.mod_eq_of_lt (by rw [pN, HPE.out, HYE.out]; have := HPL.out; have := HYL.out; omega), pN, HPE.out, HYE.out]
              omega
            have hb2 := (JB.out.set_ i (.int .u32 ((UInt32.ofNat (pN b i (n + 1))).toNat : Int))).drew
            have e2 : (u32s ((st b i).set i (UInt32.ofNat (pN b i n)))).toArray.setIfInBounds i (.int .u32 ((UInt32.ofNat (pN b i (n + 1))).toNat : Int)) = (u32s ((st b i).set i (UInt32.ofNat (pN b i (n + 1))))).toArray := by
              simp [u32s, List.map_set, u32v, List.set_set]
            rw [e2] at hb2
            rw [e1]
            exact ⟨n + 1, by omega, rfl, by go_num, hb2, (JF.out.setCell (.inr (Nat.le_refl _)) _).drew⟩
        · obtain rfl : n = 4 := by omega
          rw [st_part4 b i hlt] at hbl
          have JB := Lib.hid hbl
          clear hbl hfr
          go_wp2_with fail
          go_roundg (16 - (i + 1))
          case measure => omega
          case rel => exact ⟨i + 1, by omega, rfl, by go_num, JB.out, JF.out⟩
    · obtain rfl : i = 16 := by omega
      clear hbl hfr
      go_wp2_with fail
      obtain ⟨wo, rfl⟩ : ∃ wo : World, wo = wr := ⟨_, rfl⟩
      go_loopg [10] 48 (fun gg u wr => ∃ n : Nat, n ≤ 48 ∧ gg = 48 - n ∧ u = .int .i64 ((n : Int) + 16) ∧ Blk wr w.heap.size 68 (u32s (st b (n + 16))).toArray ∧ Fr [] w wr)
      case atStart => exact ⟨0, by omega, by omega, rfl, HBl.out, HFr.out⟩
      case round =>
        obtain ⟨n, hn, rfl, rfl, h1, hf⟩ := hrel
        have H1 := Lib.hid h1; have HF := Lib.hid hf
        by_cases hlt : n < 48
        · have hz := h1.frozen (n + 16)
          have hg : ∀ j, j < n + 16 → wr.cell? ⟨w.heap.size, j, none⟩ = some (.int .u32 ((Wf b j).toNat : Int)) := fun j hj => by
            rw [h1.cell, List.getElem?_toArray, u32s_get, st_get b _ j hj (by omega)]; rfl
          have c1 := hg (n + 1) (by omega)
          have c14 := hg (n + 14) (by omega)
          have ix := fun (j : Nat) (hj : j < 64) (i : Int) (hij : i = (j : Int)) w' => ix_sl (P := Try.prog) (b := w.heap.size) (off := 0) (n := 64) (c := 64) (d := j) Try.underlying63 sizeW hj (by omega) i hij w'
          have i0 := ix n (by omega) n rfl
          have i1 := ix (n + 1) (by omega) ((n : Int) + 1) (by omega)
          have i9 := ix (n + 9) (by omega) ((n : Int) + 9) (by omega)
          have i14 := ix (n + 14) (by omega) ((n : Int) + 14) (by omega)
          have i16 := ix (n + 16) (by omega) ((n : Int) + 16) (by omega)
          have hnI : (0 : Int) ≤ (n : Int) ∧ (n : Int) < 48 := by omega
          have hlI : (n : Int) + 16 < 64 := by omega
          have v1 : IntKind.i64.wrap ((n : Int) + 16 - 15) = (n : Int) + 1 := by rw [IntKind.wrap_i64]; omega
          have v14 : IntKind.i64.wrap ((n : Int) + 16 - 2) = (n : Int) + 14 := by rw [IntKind.wrap_i64]; omega
          have v0 : IntKind.i64.wrap ((n : Int) + 16 - 16) = (n : Int) := by rw [IntKind.wrap_i64]; omega
          have v00 : IntKind.i64.wrap (n : Int) = (n : Int) := by rw [IntKind.wrap_i64]; omega
          have v16 : IntKind.i64.wrap ((n : Int) + 16) = (n : Int) + 16 := by rw [IntKind.wrap_i64]; omega
          have v19 : IntKind.i64.wrap ((n : Int) + 9) = (n : Int) + 9 := by rw [IntKind.wrap_i64]; omega
          have v9 : IntKind.i64.wrap ((n : Int) + 16 - 7) = (n : Int) + 9 := by rw [IntKind.wrap_i64]; omega
          clear h1 hf hg ix hz
          go_wp2_with fail
          go_quiet (fail)
          go_wp2_with fail
          have h1q := H1.out.drewN nq
          have hfq := HF.out.drewN nq
          obtain ⟨w5, hw5⟩ : ∃ w5, wr.drewN nq = w5 := ⟨_, rfl⟩
          rw [hw5] at h1q hfq ⊢
          clear c1 c14 hw5
          have hg : ∀ j, j < n + 16 → w5.cell? ⟨w.heap.size, j, none⟩ = some (.int .u32 ((Wf b j).toNat : Int)) := fun j hj => by
            rw [h1q.cell, List.getElem?_toArray, u32s_get, st_get b _ j hj (by omega)]; rfl
          have c0 := hg n (by omega)
          have c9 := hg (n + 9) (by omega)
          have hz := h1q.frozen (n + 16)
          obtain ⟨old, hold⟩ : ∃ old, w5.cell? ⟨w.heap.size, n + 16, none⟩ = some old := by
            rw [h1q.cell, List.getElem?_toArray]
            exact ⟨(u32s (st b (n + 16)))[n + 16]'(by simp [st_length]; omega), by simp⟩
          have R7 := Lib.hid (fun w' => turned_q w' (Wf b (n + 1)) 7 (by omega) (by omega))
          have R18 := Lib.hid (fun w' => turned_q w' (Wf b (n + 1)) 18 (by omega) (by omega))
          have R17 := Lib.hid (fun w' => turned_q w' (Wf b (n + 14)) 17 (by omega) (by omega))
          have R19 := Lib.hid (fun w' => turned_q w' (Wf b (n + 14)) 19 (by omega) (by omega))
          have HS := Lib.hid (word_stepR b n)
          have K1 := Lib.hid h1q; have KF := Lib.hid hfq
          clear h1q hfq hg
          refine wp_region_still_tail 32 (by kernel_rfl) (by kernel_rfl) ?_
          simp only [List.take_succ_cons, List.take_zero, List.drop_succ_cons, List.drop_zero]
          repeat (first | still_step | (refine wpStill_step (fun K hK => ?_); go_simp; with_reducible refine ⟨_, R7.out _, hK _ ?_⟩; clear hK K) | (refine wpStill_step (fun K hK => ?_); go_simp; with_reducible refine ⟨_, R18.out _, hK _ ?_⟩; clear hK K) | (refine wpStill_step (fun K hK => ?_); go_simp; with_reducible refine ⟨_, R17.out _, hK _ ?_⟩; clear hK K) | (refine wpStill_step (fun K hK => ?_); go_simp; with_reducible refine ⟨_, R19.out _, hK _ ?_⟩; clear hK K))
          try refine wpStill_nil ?_
          change wpList _ _ _ _ _ _
          go_wp2
          go_roundg (48 - (n + 1))
          case measure => omega
          case rel =>
            have e9 : ∀ v : Int, v = ((Wf b (n + 16)).toNat : Int) → (u32s (st b (n + 16))).toArray.setIfInBounds (n + 16) (.int .u32 v) = (u32s (st b (n + 1 + 16))).toArray := fun v hv => by
              rw [hv, show n + 1 + 16 = n + 16 + 1 by omega, ← st_set b (n + 16)]
              simp [u32s, List.map_set, u32v]
            have hb2 := (K1.out.set_ (n + 16) (.int .u32 ((Wf b (n + 16)).toNat : Int))).drew
            rw [e9 _ rfl] at hb2
            rw [HS.out]
            exact ⟨n + 1, by omega, rfl, by go_num, hb2, (KF.out.setCell (.inr (Nat.le_refl _)) _).drew⟩
        · obtain rfl : n = 48 := by omega
          clear h1 hf
          have HOM := Lib.hid (World.ownsRow_made (base := wr.heap.size) (e := 68) (size := 1) wr #[] 0 (Nat.le_refl _) (by decide) (by simp))
          have hfa := HF.out.alloc (.cells #[] 68)
          have hsrc : 0 < (u32s Hx.l).length → ∃ ad, (some ⟨bH, oH, none⟩ : Option Addr) = some ad ∧ ∀ j u, (u32s Hx.l)[j]? = some u → (wr.alloc (.cells #[] 68)).cell? (ad.add j) = some u := fun _ => by
            obtain ⟨b', o', he, hcc⟩ := HRH.out.fr hfa (by simp) (by simp [V8.l])
            cases he
            refine ⟨_, rfl, fun j u hu => ?_⟩
            rw [addr_add0]
            rw [u32s_get] at hu
            obtain ⟨x, hx, rfl⟩ := Option.map_eq_some_iff.1 hu
            exact hcc j x hx
          have HSR := Lib.hid hsrc; have HFA := Lib.hid hfa
          have HL8 := Lib.hid (show (u32s Hx.l).length = 8 * 1 by simp [V8.l])
          have h63 : 0 + 8 ≤ maxLen := by unfold maxLen; omega
          have hle : wr.heap.size ≤ (wr.alloc (.cells #[] 68)).heap.size := by simp
          have HLE := Lib.hid hle
          clear hsrc hfa hle
          go_upto_region 15 with (at_builtin; refine wpList_append rfl (.tmp 92) (.tmp 93) 63 rfl wr.heap.size 68 (.int .u32 0) 1 4 Try.underlying63 infoU32 rfl (by decide) (.slice (some ⟨wr.heap.size, 0, none⟩) 0 0) 0 [] rfl HOM.out (some ⟨bH, oH, none⟩) 8 hc (u32s Hx.l) rfl HL8.out HSR.out (u32s_one _) h63 (by decide) HLE.out ?_; intro v1 w1 ho1 hw1 hg1 hb1; have HO1 := Lib.hid ho1; have HW1' := Lib.hid hw1; clear ho1 hw1 hg1 hb1)
          obtain ⟨g, cg, tl, rfl, hg, hcg, hbg⟩ := own_gen HO1.out (by omega)
          have hf1 : Fr [] wr w1 := ((Fr.refl [] wr).alloc (.cells #[] 68)).thenBelow HW1'.out
          rw [List.nil_append] at hbg
          have hgw : w.heap.size < g := by have := H1.out.lt; omega
          have HG := Lib.hid hgw; have HCG := Lib.hid hcg; have HBG := Lib.hid hbg; have HB1' := Lib.hid (H1.out.fr hf1 (by simp)); have HF1' := Lib.hid (HF.out.trans hf1)
          clear hgw hcg hbg hf1 hg HO1 HW1' HOM HSR HFA HL8 HLE
          go_wp2_with fail
          obtain ⟨wo2, rfl⟩ : ∃ wo2 : World, wo2 = wr := ⟨_, rfl⟩
          go_loopg [13, 14] 64 (fun gg v u wr => ∃ (k g c : Nat) (tl : List Value), k ≤ 64 ∧ gg = 64 - k ∧ u = .int .i64 k ∧ v = .slice (some ⟨g, 0, none⟩) 8 c ∧ 8 ≤ c ∧ w.heap.size < g ∧ Blk wr g 68 (u32s (rnds b Hx k).l ++ tl).toArray ∧
            Blk wr w.heap.size 68 (u32s (st b 64)).toArray ∧ Fr [] w wr)
          case atStart => exact ⟨0, g, cg, tl, by omega, by omega, rfl, rfl, HCG.out, HG.out, HBG.out, HB1'.out, HF1'.out⟩
          case round =>
            obtain ⟨k, g, c, tl, hk, rfl, rfl, rfl, hc8, hgw, hb7, hb5, hf⟩ := hrel
            obtain ⟨V, hV⟩ : ∃ V, rnds b Hx k = V := ⟨_, rfl⟩
            rw [hV] at hb7
            have HV := Lib.hid hV; have K7 := Lib.hid hb7; have K5 := Lib.hid hb5; have KF := Lib.hid hf; have HC8 := Lib.hid hc8; have HGW := Lib.hid hgw
            by_cases hlt : k < 64
            · obtain ⟨c0, c1, c2, c3, c4, c5, c6, c7⟩ := v8_cellsT hb7
              have hkI : (0 : Int) ≤ (k : Int) ∧ (k : Int) < 64 := by omega
              have heI : (V.e.toNat : Int) < 4294967296 := by have := u32_lt V.e; omega
              have R6 := Lib.hid (fun w' => turned_q w' V.e 6 (by omega) (by omega))
              have R11 := Lib.hid (fun w' => turned_q w' V.e 11 (by omega) (by omega))
              have R25 := Lib.hid (fun w' => turned_q w' V.e 25 (by omega) (by omega))
              have R2 := Lib.hid (fun w' => turned_q w' V.a 2 (by omega) (by omega))
              have R13 := Lib.hid (fun w' => turned_q w' V.a 13 (by omega) (by omega))
              have R22 := Lib.hid (fun w' => turned_q w' V.a 22 (by omega) (by omega))
              clear hb7 hb5 hf hV hc8 hgw
              go_wp2_with fail
              go_quiet (fail)
              rw [ch_val V]
              go_upto_region 19 with fail
              clear c0 c1 c2 c3 c4 c5 c6 c7
              have d7 := K7.out.drewN nq; have d5 := K5.out.drewN nq; have dF := KF.out.drewN nq
              obtain ⟨w5, hww5⟩ : ∃ x, wr.drewN nq = x := ⟨_, rfl⟩
              rw [hww5] at d7 d5 dF ⊢
              clear hww5 K7 K5 KF
              obtain ⟨c0, c1, c2, c3, c4, c5, c6, c7⟩ := v8_cellsT d7
              have K7 := Lib.hid d7; have K5 := Lib.hid d5; have KF := Lib.hid dF
              clear d7 d5 dF
              have ck : w5.cell? ⟨bK, oK + k, none⟩ = some (.int .u32 ((Kw.getD k 0).toNat : Int)) := by
                obtain ⟨b', o', he, hcc⟩ := HRK.out.fr KF.out (by simp) (by decide)
                cases he
                have hkl : k < Kw.length := by have : Kw.length = 64 := rfl; omega
                rw [hcc k Kw[k] (by simp)]
                simp [hkl, u32v]
              have cw : w5.cell? ⟨w.heap.size, k, none⟩ = some (.int .u32 ((Wf b k).toNat : Int)) := by
                rw [K5.out.cell, List.getElem?_toArray, u32s_get, st_get b 64 k hlt hlt]; rfl
              obtain ⟨Kk, hKk⟩ : ∃ x, Kw.getD k 0 = x := ⟨_, rfl⟩
              obtain ⟨Wk, hWk⟩ : ∃ x, Wf b k = x := ⟨_, rfl⟩
              rw [hKk] at ck; rw [hWk] at cw
              have HKk := Lib.hid hKk; have HWk := Lib.hid hWk
              have ik := fun w' => ix_sl (P := Try.prog) (b := bK) (off := oK) (n := 64) (c := kc) (d := oK + k) Try.underlying63 sizeW hlt rfl (k : Int) rfl w'
              have iw := fun w' => ix_sl (P := Try.prog) (b := w.heap.size) (off := 0) (n := 64) (c := 64) (d := k) Try.underlying63 sizeW hlt (by omega) (k : Int) rfl w'
              clear hKk hWk
              go_quiet ((first | (go_at_call 54; with_reducible exact Calls.quiet_of_same (R6.out _)) | (go_at_call 54; with_reducible exact Calls.quiet_of_same (R11.out _)) | (go_at_call 54; with_reducible exact Calls.quiet_of_same (R25.out _))))
              go_upto_region 20 with fail
              rw [one_valR V Kk Wk]
              obtain ⟨one, hone⟩ : ∃ x, one8 Kk Wk V = x := ⟨_, rfl⟩
              rw [hone]
              have HONE := Lib.hid hone
              clear hone ik iw
              clear c0 c1 c2 c3 c4 c5 c6 c7 ck cw
              have d7 := K7.out.drewN nq; have d5 := K5.out.drewN nq; have dF := KF.out.drewN nq
              obtain ⟨w6, hww6⟩ : ∃ x, w5.drewN nq = x := ⟨_, rfl⟩
              rw [hww6] at d7 d5 dF ⊢
              clear hww6 K7 K5 KF
              obtain ⟨c0, c1, c2, c3, c4, c5, c6, c7⟩ := v8_cellsT d7
              have K7 := Lib.hid d7; have K5 := Lib.hid d5; have KF := Lib.hid dF
              clear d7 d5 dF
              go_quiet (fail)
              go_upto_region 21 with fail
              rw [maj_val V]
              clear c0 c1 c2 c3 c4 c5 c6 c7
              have d7 := K7.out.drewN nq; have d5 := K5.out.drewN nq; have dF := KF.out.drewN nq
              obtain ⟨w7, hww7⟩ : ∃ x, w6.drewN nq = x := ⟨_, rfl⟩
              rw [hww7] at d7 d5 dF ⊢
              clear hww7 K7 K5 KF
              obtain ⟨c0, c1, c2, c3, c4, c5, c6, c7⟩ := v8_cellsT d7
              have K7 := Lib.hid d7; have K5 := Lib.hid d5; have KF := Lib.hid dF
              clear d7 d5 dF
              go_quiet ((first | (go_at_call 54; with_reducible exact Calls.quiet_of_same (R2.out _)) | (go_at_call 54; with_reducible exact Calls.quiet_of_same (R13.out _)) | (go_at_call 54; with_reducible exact Calls.quiet_of_same (R22.out _))))
              go_upto_region 22 with fail
              rw [two_val V]
              obtain ⟨two, htwo⟩ : ∃ x, two8 V = x := ⟨_, rfl⟩
              rw [htwo]
              have HTWO := Lib.hid htwo
              clear htwo
              clear c0 c1 c2 c3 c4 c5 c6 c7
              have d7 := K7.out.drewN nq; have d5 := K5.out.drewN nq; have dF := KF.out.drewN nq
              obtain ⟨w8, hww8⟩ : ∃ x, w7.drewN nq = x := ⟨_, rfl⟩
              rw [hww8] at d7 d5 dF ⊢
              clear hww8 K7 K5 KF
              obtain ⟨c0, c1, c2, c3, c4, c5, c6, c7⟩ := v8_cellsT d7
              have K7 := Lib.hid d7; have K5 := Lib.hid d5; have KF := Lib.hid dF
              clear d7 d5 dF
              have HW1q := Lib.hid (w_add one two)
              have HW2q := Lib.hid (w_add V.d one)
              clear R6 R11 R25 R2 R13 R22 heI
              go_still_tail 26, (by kernel_rfl)
              change wpList _ _ _ _ _ _
              go_wp2_with fail
              go_roundg (64 - (k + 1))
              case measure => omega
              case rel =>
                rw [HW1q.out, HW2q.out]
                have e1 : rnds b Hx (k + 1) = ⟨one + two, V.a, V.b, V.c, V.d + one, V.e, V.f, V.g⟩ := by
                  rw [rnds, HV.out, HKk.out, HWk.out, rnd, HONE.out, HTWO.out]
                have hsz := K5.out.lt
                refine ⟨k + 1, w8.heap.size, 8, [], by omega, rfl, by go_num, rfl, by omega, hsz, ?_, (K5.out.alloc _).drew, (KF.out.alloc _).drew⟩
                rw [e1]
                exact (Blk.new w8 _ _).drew
            · obtain rfl : k = 64 := by omega
              clear hb7 hb5 hf hV hc8 hgw
              go_wp2_with fail
              obtain ⟨wo3, rfl⟩ : ∃ wo3 : World, wo3 = wr := ⟨_, rfl⟩
              go_loopg [19] 8 (fun gg u wr => ∃ i : Nat, i ≤ 8 ∧ gg = 8 - i ∧ u = .int .i64 i ∧ Blk wr g 68 (u32s (addK V Hx i) ++ tl).toArray ∧ Fr [] w wr)
              case atStart => exact ⟨0, by omega, by omega, rfl, by rw [addK_zero]; exact K7.out, KF.out⟩
              case round =>
                obtain ⟨i, hi, rfl, rfl, h7, hf⟩ := hrel
                have J7 := Lib.hid h7; have JF := Lib.hid hf
                by_cases hlt : i < 8
                · obtain ⟨x, y, hx, hy, hs⟩ := addK_step V Hx i hlt
                  have hal := addK_length V Hx i hi
                  have cv : wr.cell? ⟨g, i, none⟩ = some (.int .u32 (x.toNat : Int)) := by rw [h7.cell, List.getElem?_toArray, List.getElem?_append_left (by simp [hal]; omega), u32s_get, hx]; rfl
                  have ch : wr.cell? ⟨bH, oH + i, none⟩ = some (.int .u32 (y.toNat : Int)) := by
                    obtain ⟨b', o', he, hcc⟩ := HRH.out.fr hf (by simp) (by simp [V8.l])
                    cases he
                    exact hcc i y hy
                  have hz := h7.frozen i
                  have ik := fun w' => ix_sl (P := Try.prog) (b := g) (off := 0) (n := 8) (c := c) (d := i) Try.underlying63 sizeW hlt (by omega) (i : Int) rfl w'
                  have ih := fun w' => ix_sl (P := Try.prog) (b := bH) (off := oH) (n := 8) (c := hc) (d := oH + i) Try.underlying63 sizeW hlt rfl (i : Int) rfl w'
                  have HS := Lib.hid hs
                  have HW := Lib.hid (w_add x y)
                  have HAL := Lib.hid hal
                  have hkI : (0 : Int) ≤ (i : Int) ∧ (i : Int) < 8 := by omega
                  clear h7 hf hx hy hs hal
                  go_wp2_with fail
                  go_still_tail 12, (by kernel_rfl)
                  change wpList _ _ _ _ _ _
                  go_wp2
                  go_roundg (8 - (i + 1))
                  case measure => omega
                  case rel =>
                    have hle : w.heap.size ≤ g := by have := HGW.out; omega
                    refine ⟨i + 1, by omega, rfl, by go_num, ?_, (JF.out.setCell (.inr hle) _).drew⟩
                    have hb2 := (J7.out.set_ i (.int .u32 ((x + y).toNat : Int))).drew
                    have e : (u32s (addK V Hx i) ++ tl).toArray.setIfInBounds i (.int .u32 ((x + y).toNat : Int)) = (u32s (addK V Hx (i + 1)) ++ tl).toArray := by
                      rw [← HS.out]
                      have := HAL.out
                      simp only [List.setIfInBounds_toArray, List.set_append, u32s_length, this, if_pos hlt]
                      simp [u32s, List.map_set, u32v]
                    rw [e] at hb2
                    rw [HW.out]
                    exact hb2
                · obtain rfl : i = 8 := by omega
                  have e8 : addK V Hx 8 = (turnF Hx b).l := by rw [addK_all, turnF, HV.out]
                  rw [e8] at h7
                  have J8 := Lib.hid h7
                  clear h7 hf e8
                  go_wp2_with fail
                  go_ret
                  exact ⟨g, c, tl, rfl, J8.out, HC8.out, Nat.le_of_lt HGW.out, JF.out⟩
end Go.Proofs.Ytmgbimdebhhckaa
