/- The texts RefA RefB Seq2 RefC Args ArgsT of this seat, one behind another; what each says stands at its head. -/
import Derived.Test.YtmmjihkcofgmmaaGc
import Derived.ProofKit
import Derived.OpenShut
import Derived.ChangeOld
import Derived.Deep.Slices

/- SHA-256, the document's: a block is turned in. -/
namespace Go.Proofs.Ytmmjihkcofgmmaa
open Go.RowKit

/-- where a slice's words lie -/
def RdU (w : World) (A : Option Addr) (l : List UInt32) : Prop := 0 < l.length → ∃ b off, A = some ⟨b, off, none⟩ ∧ ∀ j x, l[j]? = some x → w.cell? ⟨b, off + j, none⟩ = some (u32v x)
theorem RdU.fr {S : List Nat} {w w' : World} {A : Option Addr} {l : List UInt32} (h : RdU w A l) (hf : Fr S w w') (hS : ∀ b off, A = some ⟨b, off, none⟩ → b ∉ S) : RdU w' A l := by
  intro hl
  obtain ⟨b, off, hA, hc⟩ := h hl
  refine ⟨b, off, hA, fun j x hx => ?_⟩
  have h1 := hc j x hx
  rw [hf.cell (p := ⟨b, off + j, none⟩) (World.block_lt_of_cell? _ _ h1) (hS b off hA)]
  exact h1
theorem RdU.lt {w : World} {l : List UInt32} {b off : Nat} (h : RdU w (some ⟨b, off, none⟩) l) (hl : 0 < l.length) : b < w.heap.size := by
  obtain ⟨b', off', hA, hc⟩ := h hl
  cases hA
  have := hc 0 l[0] (by simp)
  exact World.block_lt_of_cell? _ _ this
theorem ix_sl {P : Program} {t e : TypeId} (ht : P.underlying t = some (.slice e)) (hi : (P.info? e).map (·.size) = some 1) {b off n c j d : Nat} (hj : j < n) (hd : off + j = d) (i : Int) (hij : i = (j : Int)) (w : World) :
    (Instr.indexAt t (.slice (some ⟨b, off, none⟩) n c) (.int .i64 i)).run P w = .ok (.pointer (some ⟨b, d, none⟩)) w := by
  subst hij hd
  simpa using run_index_slice' (P := P) w ht hi (n := n) (c := c) rfl hj
/-- the first n bytes of word i, joined -/
def pN (b : List UInt8) (i : Nat) : Nat → Nat
  | 0 => 0
  | n + 1 => 256 * pN b i n + byteW b (4 * i + n)
theorem byteW_lt (b : List UInt8) (i : Nat) : byteW b i < 256 := UInt8.toNat_lt _
theorem pN_lt (b : List UInt8) (i : Nat) : ∀ n, pN b i n < 256 ^ n
  | 0 => by simp [pN]
  | n + 1 => by
    have h1 := pN_lt b i n
    have h2 := byteW_lt b (4 * i + n)
    rw [pN, Nat.pow_succ]
    omega
theorem pN_four (b : List UInt8) (i : Nat) : UInt32.ofNat (pN b i 4) = wordB b i := by
  unfold wordB
  simp only [pN, Nat.mul_zero, Nat.zero_add, Nat.add_zero]
  congr 1
  omega
theorem st_part0 (b : List UInt8) (i : Nat) (hi : i < 64) : (st b i).set i (UInt32.ofNat (pN b i 0)) = st b i := by
  apply List.ext_getElem?
  intro j
  rw [List.getElem?_set]
  by_cases h : i = j
  · subst h
    simp [hi, st, pN]
  · simp [h]
theorem st_part4 (b : List UInt8) (i : Nat) (hi : i < 16) : (st b i).set i (UInt32.ofNat (pN b i 4)) = st b (i + 1) := by
  rw [pN_four, ← st_set]
  congr 1
  rw [Wf]; simp [hi]
theorem ref_mk (w : World) : (Instr.makeSlice 93 (.int .i64 64) (.int .i64 64)).run Try.prog w = .ok (.slice (some ⟨w.heap.size, 0, none⟩) 64 64) (w.alloc (.cells (u32s (st [] 0)).toArray 108)) := by
  have h := run_make_n (P := Try.prog) 93 108 (.int .u32 0) 1 4 Try.underlying93 (by kernel_rfl) 64 (by omega) (by omega) w
  have e : madeCells (Value.int .u32 0).cells (64 * 1) = (u32s (st [] 0)).toArray := by rw [st_zero]; kernel_rfl
  rw [e] at h
  exact h
theorem st_nil (b : List UInt8) : st [] 0 = st b 0 := by rw [st_zero, st_zero]
theorem turned_q (w : World) (x : UInt32) (n : Nat) (h1 : 1 ≤ n) (h2 : n ≤ 31) :
    Calls Try.prog 75 #[.int .u32 (x.toNat : Int), .int .u64 (n : Int)] w fun e w' => e = .returned (.int .u32 ((rotr x n).toNat : Int)) ∧ w' = w :=
  (turned_calls w x n h1 h2).mono fun _ _ ⟨h, h'⟩ => ⟨h, h'.symm⟩
theorem infoU32 : (Try.prog.info? 108).map (fun i => (i.zero, i.size, i.bytes)) = some (some (.int .u32 0), 1, 4) := by kernel_rfl
theorem own_gen {w : World} {base : Nat} {e : TypeId} {v : Value} {n : Nat} {xs : List Value} (h : w.ownsRow base e 1 v n xs) (h0 : 0 < n) :
    ∃ g c tl, v = .slice (some ⟨g, 0, none⟩) n c ∧ base ≤ g ∧ n ≤ c ∧ Blk w g e (xs ++ tl).toArray := by
  rcases h.2 with ⟨_, h1⟩ | ⟨g, cap, cur, rfl, hb, hg, hnc, _, hsz, htk⟩
  · omega
  · refine ⟨g, cap, cur.toList.drop n, rfl, hb, hnc, ?_⟩
    unfold Blk
    rw [hg, ← htk]
    simp
theorem v8_cellsT {w : World} {q : Nat} {t : TypeId} {V : V8} {tl : List Value} (h : Blk w q t (u32s V.l ++ tl).toArray) :
    w.cell? ⟨q, 0, none⟩ = some (.int .u32 (V.a.toNat : Int)) ∧ w.cell? ⟨q, 1, none⟩ = some (.int .u32 (V.b.toNat : Int)) ∧ w.cell? ⟨q, 2, none⟩ = some (.int .u32 (V.c.toNat : Int)) ∧
    w.cell? ⟨q, 3, none⟩ = some (.int .u32 (V.d.toNat : Int)) ∧ w.cell? ⟨q, 4, none⟩ = some (.int .u32 (V.e.toNat : Int)) ∧ w.cell? ⟨q, 5, none⟩ = some (.int .u32 (V.f.toNat : Int)) ∧
    w.cell? ⟨q, 6, none⟩ = some (.int .u32 (V.g.toNat : Int)) ∧ w.cell? ⟨q, 7, none⟩ = some (.int .u32 (V.h.toNat : Int)) := by
  refine ⟨?_, ?_, ?_, ?_, ?_, ?_, ?_, ?_⟩ <;> (rw [h.cell]; rfl)
def chF (V : V8) : UInt32 := (V.e &&& V.f) ^^^ (~~~V.e &&& V.g)
def majF (V : V8) : UInt32 := (V.a &&& V.b) ^^^ (V.a &&& V.c) ^^^ (V.b &&& V.c)
theorem ch_val (V : V8) : bits .xor .u32 (bits .and .u32 (V.e.toNat : Int) (V.f.toNat : Int)) (bits .and .u32 (4294967295 - (V.e.toNat : Int)) (V.g.toNat : Int)) = ((chF V).toNat : Int) := by
  rw [w_not, w_and, w_and, w_xor]; rfl
theorem maj_val (V : V8) : bits .xor .u32 (bits .xor .u32 (bits .and .u32 (V.a.toNat : Int) (V.b.toNat : Int)) (bits .and .u32 (V.a.toNat : Int) (V.c.toNat : Int))) (bits .and .u32 (V.b.toNat : Int) (V.c.toNat : Int)) = ((majF V).toNat : Int) := by
  rw [w_and, w_and, w_and, w_xor, w_xor]; rfl
theorem one_val (V : V8) (K W : UInt32) :
    ((V.h.toNat : Int) + bits .xor .u32 (bits .xor .u32 ((rotr V.e 6).toNat : Int) ((rotr V.e 11).toNat : Int)) ((rotr V.e 25).toNat : Int) + ((chF V).toNat : Int) + (K.toNat : Int) + (W.toNat : Int)) % 4294967296 = ((one8 K W V).toNat : Int) := by
  rw [w_xor, w_xor]
  unfold one8 chF
  rw [UInt32.toNat_add, UInt32.toNat_add, UInt32.toNat_add, UInt32.toNat_add]
  omega
theorem one_valR (V : V8) (K W : UInt32) :
    (((V.h.toNat : Int) + bits .xor .u32 (bits .xor .u32 ((rotr V.e 6).toNat : Int) ((rotr V.e 11).toNat : Int)) ((rotr V.e 25).toNat : Int) + ((chF V).toNat : Int) + (K.toNat : Int)) % 4294967296 + (W.toNat : Int)) % 4294967296 = ((one8 K W V).toNat : Int) := by
  rw [← one_val]
  omega
theorem two_val (V : V8) :
    (bits .xor .u32 (bits .xor .u32 ((rotr V.a 2).toNat : Int) ((rotr V.a 13).toNat : Int)) ((rotr V.a 22).toNat : Int) + ((majF V).toNat : Int)) % 4294967296 = ((two8 V).toNat : Int) := by
  rw [w_xor, w_xor]
  unfold two8 majF
  rw [UInt32.toNat_add]
  omega
theorem word_stepR (b : List UInt8) (n : Nat) :
    (((Wf b n).toNat : Int) + bits .xor .u32 (bits .xor .u32 ((rotr (Wf b (n + 1)) 7).toNat : Int) ((rotr (Wf b (n + 1)) 18).toNat : Int)) (((Wf b (n + 1)).toNat : Int) / 8 % 4294967296) + ((Wf b (n + 9)).toNat : Int) +
      bits .xor .u32 (bits .xor .u32 ((rotr (Wf b (n + 14)) 17).toNat : Int) ((rotr (Wf b (n + 14)) 19).toNat : Int)) (((Wf b (n + 14)).toNat : Int) / 1024 % 4294967296)) % 4294967296 = ((Wf b (n + 16)).toNat : Int) := by
  have h1 := u32_lt (Wf b (n + 1))
  have h2 := u32_lt (Wf b (n + 14))
  rw [show ((Wf b (n + 1)).toNat : Int) / 8 % 4294967296 = ((Wf b (n + 1)).toNat : Int) / 8 by omega, show ((Wf b (n + 14)).toNat : Int) / 1024 % 4294967296 = ((Wf b (n + 14)).toNat : Int) / 1024 by omega]
  exact word_step b n
def RefT (w : World) (V : V8) (e : Ending) (w' : World) : Prop :=
  ∃ g c tl, e = .returned (.slice (some ⟨g, 0, none⟩) 8 c) ∧ Blk w' g 108 (u32s V.l ++ tl).toArray ∧ 8 ≤ c ∧ w.heap.size ≤ g ∧ Fr [] w w'
set_option maxHeartbeats 8000000 in
set_option maxRecDepth 100000 in
theorem rturn_calls (w : World) (Hx : V8) (HA : Option Addr) (hc : Nat) (hH : RdU w HA Hx.l) (A : Option Addr) (c : Nat) (b : List UInt8) (hb : b.length = 64) (hA : Rd w A b) (KA : Option Addr) (kc : Nat) (hK : RdU w KA Kw) :
    Calls Try.prog 68 #[.slice HA 8 hc, .slice A 64 c, .slice KA 64 kc] w (RefT w (turnF Hx b)) := by
  have MK := Lib.hid ref_mk
  have HB := Lib.hid hb; have HRA := Lib.hid hA; have HRH := Lib.hid hH; have HRK := Lib.hid hK
  have hb1 := Blk.new w 108 (u32s (st [] 0)).toArray
  rw [st_nil b] at hb1
  have hf1 := (Fr.refl [] w).alloc (.cells (u32s (st b 0)).toArray 108)
  have HB1 := Lib.hid hb1; have HF1 := Lib.hid hf1
  obtain ⟨bA, oA, hAe, hAc⟩ := hA (by omega)
  subst hAe
  obtain ⟨bK, oK, hKe, hKc⟩ := hK (by decide)
  subst hKe
  obtain ⟨bH, oH, hHe, hHc⟩ := hH (by simp [V8.l])
  subst hHe
  clear hb hA hH hK hb1 hf1 hAc hKc hHc
  have mk := MK.out w
  rw [st_nil b] at mk
  go_enter Try.func68, Try.ntmps68
  go_wp2_with fail
  obtain ⟨W1, hW1⟩ : ∃ W1, w.alloc (.cells (u32s (st b 0)).toArray 108) = W1 := ⟨_, rfl⟩
  have HW1 := Lib.hid hW1
  rw [hW1] at HB1 HF1 ⊢
  clear hW1 mk MK
  go_loopg [8] 16 (fun gg u wr => ∃ i : Nat, i ≤ 16 ∧ gg = 16 - i ∧ u = .int .i64 i ∧ Blk wr w.heap.size 108 (u32s (st b i)).toArray ∧ Fr [] w wr)
  case atStart => exact ⟨0, by omega, by omega, rfl, HB1.out, HF1.out⟩
  case round =>
    obtain ⟨i, hi, rfl, rfl, hbl, hfr⟩ := hrel
    have HBl := Lib.hid hbl; have HFr := Lib.hid hfr
    by_cases hlt : i < 16
    · have hiI : (0 : Int) ≤ (i : Int) ∧ (i : Int) < 16 := by omega
      rw [← st_part0 b i (by omega)] at hbl
      have HBp := Lib.hid hbl
      clear hbl hfr
      go_wp2_with fail
      obtain ⟨wo, rfl⟩ : ∃ wo : World, wo = wr := ⟨_, rfl⟩
      go_loopg [9] 4 (fun gg u wr => ∃ n : Nat, n ≤ 4 ∧ gg = 4 - n ∧ u = .int .i64 n ∧ Blk wr w.heap.size 108 (u32s ((st b i).set i (UInt32.ofNat (pN b i n)))).toArray ∧ Fr [] w wr)
      case atStart => exact ⟨0, by omega, by omega, rfl, HBp.out, HFr.out⟩
      case round =>
        obtain ⟨n, hn, rfl, rfl, hbl, hfr⟩ := hrel
        have JB := Lib.hid hbl; have JF := Lib.hid hfr
        by_cases hln : n < 4
        · obtain ⟨P, hP⟩ : ∃ P, pN b i n = P := ⟨_, rfl⟩
          obtain ⟨y, hy⟩ : ∃ y, byteW b (4 * i + n) = y := ⟨_, rfl⟩
          have hPl : P < 16777216 := by
            have h1 := pN_lt b i n
            have h2 : (256 : Nat) ^ n ≤ 256 ^ 3 := Nat.pow_le_pow_right (by omega) (by omega)
            rw [hP] at h1; omega
          have hyl : y < 256 := hy ▸ byteW_lt b _
          have cw : wr.cell? ⟨w.heap.size, i, none⟩ = some (.int .u32 (P : Int)) := by
            rw [hbl.cell, List.getElem?_toArray, u32s_get, List.getElem?_set, if_pos rfl, if_pos (by rw [st_length]; omega), hP]
            simp only [Option.map_some, u32v, UInt32.toNat_ofNat']
            rw [Nat.mod_eq_of_lt (by omega)]
          have cb : wr.cell? ⟨bA, oA + (4 * i + n), none⟩ = some (.int .u8 (y : Int)) := by
            obtain ⟨b', o', he, hcc⟩ := HRA.out.fr hfr (by simp) (by have := HB.out; omega)
            cases he
            have := HB.out
            rw [hcc (4 * i + n) b[4 * i + n] (by simp), ← hy]
            simp [u8v, byteW, List.getD, show 4 * i + n < b.length by omega]
          have iw := fun w' => ix_sl (P := Try.prog) (b := w.heap.size) (off := 0) (n := 64) (c := 64) (d := i) Try.underlying93 sizeW (show i < 64 by omega) (by omega) (i : Int) rfl w'
          have ib := fun w' => ix_sl (P := Try.prog) (b := bA) (off := oA) (n := 64) (c := c) (d := oA + (4 * i + n)) Try.underlying26 sizeU8s (show 4 * i + n < 64 by omega) rfl (4 * (i : Int) + (n : Int)) (by omega) w'
          have hz := hbl.frozen i
          have m0 : IntKind.i64.wrap (4 * (i : Int)) = 4 * (i : Int) := by rw [IntKind.wrap_i64]; omega
          have m1 : IntKind.i64.wrap (4 * (i : Int) + (n : Int)) = 4 * (i : Int) + (n : Int) := by rw [IntKind.wrap_i64]; omega
          have q0 : IntKind.u32.wrap (y : Int) = (y : Int) := by rw [IntKind.wrap_u32']; omega
          have q1 : IntKind.u32.wrap (256 * (P : Int)) = 256 * (P : Int) := by rw [IntKind.wrap_u32']; omega
          have q2 : IntKind.u32.wrap (256 * (P : Int) + (y : Int)) = 256 * (P : Int) + (y : Int) := by rw [IntKind.wrap_u32']; omega
          have hnI : (0 : Int) ≤ (n : Int) ∧ (n : Int) < 4 := by omega
          have HPE := Lib.hid hP; have HYE := Lib.hid hy; have HPL := Lib.hid hPl; have HYL := Lib.hid hyl
          clear hbl hfr hP hy hPl hyl
          go_wp2_with fail
          go_still_tail 17, (by kernel_rfl)
          change wpList _ _ _ _ _ _
          go_wp2
          go_roundg (4 - (n + 1))
          case measure => omega
          case rel =>
            have e1 : (256 * (P : Int) + (y : Int)) = ((UInt32.ofNat (pN b i (n + 1))).toNat : Int) := by
              rw [UInt32.toNat_ofNat', Nat.mod_eq_of_lt (by rw [pN, HPE.out, HYE.out]; have := HPL.out; have := HYL.out; omega), pN, HPE.out, HYE.out]
              omega
            have hb2 := (JB.out.set_ i (.int .u32 ((UInt32.ofNat (pN b i (n + 1))).toNat : Int))).drew
            have e2 : (u32s ((st b i).set i (UInt32.ofNat (pN b i n)))).toArray.setIfInBounds i (.int .u32 ((UInt32.ofNat (pN b i (n + 1))).toNat : Int)) = (u32s ((st b i).set i (UInt32.ofNat (pN b i (n + 1))))).toArray := by
              simp [u32s, List.map_set, u32v, List.set_set]
            rw [e2] at hb2
            rw [e1]
            exact ⟨n + 1, by omega, rfl, by go_num, hb2, (JF.out.setCell (.inr (Nat.le_refl _)) _).drew⟩
        · obtain rfl : n = 4 := by omega
          rw [st_part4 b i hlt] at hbl
          have JB := Lib.hid hbl
          clear hbl hfr
          go_wp2_with fail
          go_roundg (16 - (i + 1))
          case measure => omega
          case rel => exact ⟨i + 1, by omega, rfl, by go_num, JB.out, JF.out⟩
    · obtain rfl : i = 16 := by omega
      clear hbl hfr
      go_wp2_with fail
      obtain ⟨wo, rfl⟩ : ∃ wo : World, wo = wr := ⟨_, rfl⟩
      go_loopg [10] 48 (fun gg u wr => ∃ n : Nat, n ≤ 48 ∧ gg = 48 - n ∧ u = .int .i64 ((n : Int) + 16) ∧ Blk wr w.heap.size 108 (u32s (st b (n + 16))).toArray ∧ Fr [] w wr)
      case atStart => exact ⟨0, by omega, by omega, rfl, HBl.out, HFr.out⟩
      case round =>
        obtain ⟨n, hn, rfl, rfl, h1, hf⟩ := hrel
        have H1 := Lib.hid h1; have HF := Lib.hid hf
        by_cases hlt : n < 48
        · have hz := h1.frozen (n + 16)
          have hg : ∀ j, j < n + 16 → wr.cell? ⟨w.heap.size, j, none⟩ = some (.int .u32 ((Wf b j).toNat : Int)) := fun j hj => by
            rw [h1.cell, List.getElem?_toArray, u32s_get, st_get b _ j hj (by omega)]; rfl
          have c1 := hg (n + 1) (by omega)
          have c14 := hg (n + 14) (by omega)
          have ix := fun (j : Nat) (hj : j < 64) (i : Int) (hij : i = (j : Int)) w' => ix_sl (P := Try.prog) (b := w.heap.size) (off := 0) (n := 64) (c := 64) (d := j) Try.underlying93 sizeW hj (by omega) i hij w'
          have i0 := ix n (by omega) n rfl
          have i1 := ix (n + 1) (by omega) ((n : Int) + 1) (by omega)
          have i9 := ix (n + 9) (by omega) ((n : Int) + 9) (by omega)
          have i14 := ix (n + 14) (by omega) ((n : Int) + 14) (by omega)
          have i16 := ix (n + 16) (by omega) ((n : Int) + 16) (by omega)
          have hnI : (0 : Int) ≤ (n : Int) ∧ (n : Int) < 48 := by omega
          have hlI : (n : Int) + 16 < 64 := by omega
          have v1 : IntKind.i64.wrap ((n : Int) + 16 - 15) = (n : Int) + 1 := by rw [IntKind.wrap_i64]; omega
          have v14 : IntKind.i64.wrap ((n : Int) + 16 - 2) = (n : Int) + 14 := by rw [IntKind.wrap_i64]; omega
          have v0 : IntKind.i64.wrap ((n : Int) + 16 - 16) = (n : Int) := by rw [IntKind.wrap_i64]; omega
          have v00 : IntKind.i64.wrap (n : Int) = (n : Int) := by rw [IntKind.wrap_i64]; omega
          have v16 : IntKind.i64.wrap ((n : Int) + 16) = (n : Int) + 16 := by rw [IntKind.wrap_i64]; omega
          have v19 : IntKind.i64.wrap ((n : Int) + 9) = (n : Int) + 9 := by rw [IntKind.wrap_i64]; omega
          have v9 : IntKind.i64.wrap ((n : Int) + 16 - 7) = (n : Int) + 9 := by rw [IntKind.wrap_i64]; omega
          clear h1 hf hg ix hz
          go_wp2_with fail
          go_quiet (fail)
          go_wp2_with fail
          have h1q := H1.out.drewN nq
          have hfq := HF.out.drewN nq
          obtain ⟨w5, hw5⟩ : ∃ w5, wr.drewN nq = w5 := ⟨_, rfl⟩
          rw [hw5] at h1q hfq ⊢
          clear c1 c14 hw5
          have hg : ∀ j, j < n + 16 → w5.cell? ⟨w.heap.size, j, none⟩ = some (.int .u32 ((Wf b j).toNat : Int)) := fun j hj => by
            rw [h1q.cell, List.getElem?_toArray, u32s_get, st_get b _ j hj (by omega)]; rfl
          have c0 := hg n (by omega)
          have c9 := hg (n + 9) (by omega)
          have hz := h1q.frozen (n + 16)
          obtain ⟨old, hold⟩ : ∃ old, w5.cell? ⟨w.heap.size, n + 16, none⟩ = some old := by
            rw [h1q.cell, List.getElem?_toArray]
            exact ⟨(u32s (st b (n + 16)))[n + 16]'(by simp [st_length]; omega), by simp⟩
          have R7 := Lib.hid (fun w' => turned_q w' (Wf b (n + 1)) 7 (by omega) (by omega))
          have R18 := Lib.hid (fun w' => turned_q w' (Wf b (n + 1)) 18 (by omega) (by omega))
          have R17 := Lib.hid (fun w' => turned_q w' (Wf b (n + 14)) 17 (by omega) (by omega))
          have R19 := Lib.hid (fun w' => turned_q w' (Wf b (n + 14)) 19 (by omega) (by omega))
          have HS := Lib.hid (word_stepR b n)
          have K1 := Lib.hid h1q; have KF := Lib.hid hfq
          clear h1q hfq hg
          refine wp_region_still_tail 32 (by kernel_rfl) (by kernel_rfl) ?_
          simp only [List.take_succ_cons, List.take_zero, List.drop_succ_cons, List.drop_zero]
          repeat (first | still_step | (refine wpStill_step (fun K hK => ?_); go_simp; with_reducible refine ⟨_, R7.out _, hK _ ?_⟩; clear hK K) | (refine wpStill_step (fun K hK => ?_); go_simp; with_reducible refine ⟨_, R18.out _, hK _ ?_⟩; clear hK K) | (refine wpStill_step (fun K hK => ?_); go_simp; with_reducible refine ⟨_, R17.out _, hK _ ?_⟩; clear hK K) | (refine wpStill_step (fun K hK => ?_); go_simp; with_reducible refine ⟨_, R19.out _, hK _ ?_⟩; clear hK K))
          try refine wpStill_nil ?_
          change wpList _ _ _ _ _ _
          go_wp2
          go_roundg (48 - (n + 1))
          case measure => omega
          case rel =>
            have e9 : ∀ v : Int, v = ((Wf b (n + 16)).toNat : Int) → (u32s (st b (n + 16))).toArray.setIfInBounds (n + 16) (.int .u32 v) = (u32s (st b (n + 1 + 16))).toArray := fun v hv => by
              rw [hv, show n + 1 + 16 = n + 16 + 1 by omega, ← st_set b (n + 16)]
              simp [u32s, List.map_set, u32v]
            have hb2 := (K1.out.set_ (n + 16) (.int .u32 ((Wf b (n + 16)).toNat : Int))).drew
            rw [e9 _ rfl] at hb2
            rw [HS.out]
            exact ⟨n + 1, by omega, rfl, by go_num, hb2, (KF.out.setCell (.inr (Nat.le_refl _)) _).drew⟩
        · obtain rfl : n = 48 := by omega
          clear h1 hf
          have HOM := Lib.hid (World.ownsRow_made (base := wr.heap.size) (e := 108) (size := 1) wr #[] 0 (Nat.le_refl _) (by decide) (by simp))
          have hfa := HF.out.alloc (.cells #[] 108)
          have hsrc : 0 < (u32s Hx.l).length → ∃ ad, (some ⟨bH, oH, none⟩ : Option Addr) = some ad ∧ ∀ j u, (u32s Hx.l)[j]? = some u → (wr.alloc (.cells #[] 108)).cell? (ad.add j) = some u := fun _ => by
            obtain ⟨b', o', he, hcc⟩ := HRH.out.fr hfa (by simp) (by simp [V8.l])
            cases he
            refine ⟨_, rfl, fun j u hu => ?_⟩
            rw [addr_add0]
            rw [u32s_get] at hu
            obtain ⟨x, hx, rfl⟩ := Option.map_eq_some_iff.1 hu
            exact hcc j x hx
          have HSR := Lib.hid hsrc; have HFA := Lib.hid hfa
          have HL8 := Lib.hid (show (u32s Hx.l).length = 8 * 1 by simp [V8.l])
          have h63 : 0 + 8 ≤ maxLen := by unfold maxLen; omega
          have hle : wr.heap.size ≤ (wr.alloc (.cells #[] 108)).heap.size := by simp
          have HLE := Lib.hid hle
          clear hsrc hfa hle
          go_upto_region 15 with (at_builtin; refine wpList_append rfl (.tmp 92) (.tmp 93) 93 rfl wr.heap.size 108 (.int .u32 0) 1 4 Try.underlying93 infoU32 rfl (by decide) (.slice (some ⟨wr.heap.size, 0, none⟩) 0 0) 0 [] rfl HOM.out (some ⟨bH, oH, none⟩) 8 hc (u32s Hx.l) rfl HL8.out HSR.out (u32s_one _) h63 (by decide) HLE.out ?_; intro v1 w1 ho1 hw1 hg1 hb1; have HO1 := Lib.hid ho1; have HW1' := Lib.hid hw1; clear ho1 hw1 hg1 hb1)
          obtain ⟨g, cg, tl, rfl, hg, hcg, hbg⟩ := own_gen HO1.out (by omega)
          have hf1 : Fr [] wr w1 := ((Fr.refl [] wr).alloc (.cells #[] 108)).thenBelow HW1'.out
          rw [List.nil_append] at hbg
          have hgw : w.heap.size < g := by have := H1.out.lt; omega
          have HG := Lib.hid hgw; have HCG := Lib.hid hcg; have HBG := Lib.hid hbg; have HB1' := Lib.hid (H1.out.fr hf1 (by simp)); have HF1' := Lib.hid (HF.out.trans hf1)
          clear hgw hcg hbg hf1 hg HO1 HW1' HOM HSR HFA HL8 HLE
          go_wp2_with fail
          obtain ⟨wo2, rfl⟩ : ∃ wo2 : World, wo2 = wr := ⟨_, rfl⟩
          go_loopg [13, 14] 64 (fun gg v u wr => ∃ (k g c : Nat) (tl : List Value), k ≤ 64 ∧ gg = 64 - k ∧ u = .int .i64 k ∧ v = .slice (some ⟨g, 0, none⟩) 8 c ∧ 8 ≤ c ∧ w.heap.size < g ∧ Blk wr g 108 (u32s (rnds b Hx k).l ++ tl).toArray ∧
            Blk wr w.heap.size 108 (u32s (st b 64)).toArray ∧ Fr [] w wr)
          case atStart => exact ⟨0, g, cg, tl, by omega, by omega, rfl, rfl, HCG.out, HG.out, HBG.out, HB1'.out, HF1'.out⟩
          case round =>
            obtain ⟨k, g, c, tl, hk, rfl, rfl, rfl, hc8, hgw, hb7, hb5, hf⟩ := hrel
            obtain ⟨V, hV⟩ : ∃ V, rnds b Hx k = V := ⟨_, rfl⟩
            rw [hV] at hb7
            have HV := Lib.hid hV; have K7 := Lib.hid hb7; have K5 := Lib.hid hb5; have KF := Lib.hid hf; have HC8 := Lib.hid hc8; have HGW := Lib.hid hgw
            by_cases hlt : k < 64
            · obtain ⟨c0, c1, c2, c3, c4, c5, c6, c7⟩ := v8_cellsT hb7
              have hkI : (0 : Int) ≤ (k : Int) ∧ (k : Int) < 64 := by omega
              have heI : (V.e.toNat : Int) < 4294967296 := by have := u32_lt V.e; omega
              have R6 := Lib.hid (fun w' => turned_q w' V.e 6 (by omega) (by omega))
              have R11 := Lib.hid (fun w' => turned_q w' V.e 11 (by omega) (by omega))
              have R25 := Lib.hid (fun w' => turned_q w' V.e 25 (by omega) (by omega))
              have R2 := Lib.hid (fun w' => turned_q w' V.a 2 (by omega) (by omega))
              have R13 := Lib.hid (fun w' => turned_q w' V.a 13 (by omega) (by omega))
              have R22 := Lib.hid (fun w' => turned_q w' V.a 22 (by omega) (by omega))
              clear hb7 hb5 hf hV hc8 hgw
              go_wp2_with fail
              go_quiet (fail)
              rw [ch_val V]
              go_upto_region 19 with fail
              clear c0 c1 c2 c3 c4 c5 c6 c7
              have d7 := K7.out.drewN nq; have d5 := K5.out.drewN nq; have dF := KF.out.drewN nq
              obtain ⟨w5, hww5⟩ : ∃ x, wr.drewN nq = x := ⟨_, rfl⟩
              rw [hww5] at d7 d5 dF ⊢
              clear hww5 K7 K5 KF
              obtain ⟨c0, c1, c2, c3, c4, c5, c6, c7⟩ := v8_cellsT d7
              have K7 := Lib.hid d7; have K5 := Lib.hid d5; have KF := Lib.hid dF
              clear d7 d5 dF
              have ck : w5.cell? ⟨bK, oK + k, none⟩ = some (.int .u32 ((Kw.getD k 0).toNat : Int)) := by
                obtain ⟨b', o', he, hcc⟩ := HRK.out.fr KF.out (by simp) (by decide)
                cases he
                have hkl : k < Kw.length := by have : Kw.length = 64 := rfl; omega
                rw [hcc k Kw[k] (by simp)]
                simp [hkl, u32v]
              have cw : w5.cell? ⟨w.heap.size, k, none⟩ = some (.int .u32 ((Wf b k).toNat : Int)) := by
                rw [K5.out.cell, List.getElem?_toArray, u32s_get, st_get b 64 k hlt hlt]; rfl
              obtain ⟨Kk, hKk⟩ : ∃ x, Kw.getD k 0 = x := ⟨_, rfl⟩
              obtain ⟨Wk, hWk⟩ : ∃ x, Wf b k = x := ⟨_, rfl⟩
              rw [hKk] at ck; rw [hWk] at cw
              have HKk := Lib.hid hKk; have HWk := Lib.hid hWk
              have ik := fun w' => ix_sl (P := Try.prog) (b := bK) (off := oK) (n := 64) (c := kc) (d := oK + k) Try.underlying93 sizeW hlt rfl (k : Int) rfl w'
              have iw := fun w' => ix_sl (P := Try.prog) (b := w.heap.size) (off := 0) (n := 64) (c := 64) (d := k) Try.underlying93 sizeW hlt (by omega) (k : Int) rfl w'
              clear hKk hWk
              go_quiet ((first | (go_at_call 75; with_reducible exact Calls.quiet_of_same (R6.out _)) | (go_at_call 75; with_reducible exact Calls.quiet_of_same (R11.out _)) | (go_at_call 75; with_reducible exact Calls.quiet_of_same (R25.out _))))
              go_upto_region 20 with fail
              rw [one_valR V Kk Wk]
              obtain ⟨one, hone⟩ : ∃ x, one8 Kk Wk V = x := ⟨_, rfl⟩
              rw [hone]
              have HONE := Lib.hid hone
              clear hone ik iw
              clear c0 c1 c2 c3 c4 c5 c6 c7 ck cw
              have d7 := K7.out.drewN nq; have d5 := K5.out.drewN nq; have dF := KF.out.drewN nq
              obtain ⟨w6, hww6⟩ : ∃ x, w5.drewN nq = x := ⟨_, rfl⟩
              rw [hww6] at d7 d5 dF ⊢
              clear hww6 K7 K5 KF
              obtain ⟨c0, c1, c2, c3, c4, c5, c6, c7⟩ := v8_cellsT d7
              have K7 := Lib.hid d7; have K5 := Lib.hid d5; have KF := Lib.hid dF
              clear d7 d5 dF
              go_quiet (fail)
              go_upto_region 21 with fail
              rw [maj_val V]
              clear c0 c1 c2 c3 c4 c5 c6 c7
              have d7 := K7.out.drewN nq; have d5 := K5.out.drewN nq; have dF := KF.out.drewN nq
              obtain ⟨w7, hww7⟩ : ∃ x, w6.drewN nq = x := ⟨_, rfl⟩
              rw [hww7] at d7 d5 dF ⊢
              clear hww7 K7 K5 KF
              obtain ⟨c0, c1, c2, c3, c4, c5, c6, c7⟩ := v8_cellsT d7
              have K7 := Lib.hid d7; have K5 := Lib.hid d5; have KF := Lib.hid dF
              clear d7 d5 dF
              go_quiet ((first | (go_at_call 75; with_reducible exact Calls.quiet_of_same (R2.out _)) | (go_at_call 75; with_reducible exact Calls.quiet_of_same (R13.out _)) | (go_at_call 75; with_reducible exact Calls.quiet_of_same (R22.out _))))
              go_upto_region 22 with fail
              rw [two_val V]
              obtain ⟨two, htwo⟩ : ∃ x, two8 V = x := ⟨_, rfl⟩
              rw [htwo]
              have HTWO := Lib.hid htwo
              clear htwo
              clear c0 c1 c2 c3 c4 c5 c6 c7
              have d7 := K7.out.drewN nq; have d5 := K5.out.drewN nq; have dF := KF.out.drewN nq
              obtain ⟨w8, hww8⟩ : ∃ x, w7.drewN nq = x := ⟨_, rfl⟩
              rw [hww8] at d7 d5 dF ⊢
              clear hww8 K7 K5 KF
              obtain ⟨c0, c1, c2, c3, c4, c5, c6, c7⟩ := v8_cellsT d7
              have K7 := Lib.hid d7; have K5 := Lib.hid d5; have KF := Lib.hid dF
              clear d7 d5 dF
              have HW1q := Lib.hid (w_add one two)
              have HW2q := Lib.hid (w_add V.d one)
              clear R6 R11 R25 R2 R13 R22 heI
              go_still_tail 26, (by kernel_rfl)
              change wpList _ _ _ _ _ _
              go_wp2_with fail
              go_roundg (64 - (k + 1))
              case measure => omega
              case rel =>
                rw [HW1q.out, HW2q.out]
                have e1 : rnds b Hx (k + 1) = ⟨one + two, V.a, V.b, V.c, V.d + one, V.e, V.f, V.g⟩ := by
                  rw [rnds, HV.out, HKk.out, HWk.out, rnd, HONE.out, HTWO.out]
                have hsz := K5.out.lt
                refine ⟨k + 1, w8.heap.size, 8, [], by omega, rfl, by go_num, rfl, by omega, hsz, ?_, (K5.out.alloc _).drew, (KF.out.alloc _).drew⟩
                rw [e1]
                exact (Blk.new w8 _ _).drew
            · obtain rfl : k = 64 := by omega
              clear hb7 hb5 hf hV hc8 hgw
              go_wp2_with fail
              obtain ⟨wo3, rfl⟩ : ∃ wo3 : World, wo3 = wr := ⟨_, rfl⟩
              go_loopg [19] 8 (fun gg u wr => ∃ i : Nat, i ≤ 8 ∧ gg = 8 - i ∧ u = .int .i64 i ∧ Blk wr g 108 (u32s (addK V Hx i) ++ tl).toArray ∧ Fr [] w wr)
              case atStart => exact ⟨0, by omega, by omega, rfl, by rw [addK_zero]; exact K7.out, KF.out⟩
              case round =>
                obtain ⟨i, hi, rfl, rfl, h7, hf⟩ := hrel
                have J7 := Lib.hid h7; have JF := Lib.hid hf
                by_cases hlt : i < 8
                · obtain ⟨x, y, hx, hy, hs⟩ := addK_step V Hx i hlt
                  have hal := addK_length V Hx i hi
                  have cv : wr.cell? ⟨g, i, none⟩ = some (.int .u32 (x.toNat : Int)) := by rw [h7.cell, List.getElem?_toArray, List.getElem?_append_left (by simp [hal]; omega), u32s_get, hx]; rfl
                  have ch : wr.cell? ⟨bH, oH + i, none⟩ = some (.int .u32 (y.toNat : Int)) := by
                    obtain ⟨b', o', he, hcc⟩ := HRH.out.fr hf (by simp) (by simp [V8.l])
                    cases he
                    exact hcc i y hy
                  have hz := h7.frozen i
                  have ik := fun w' => ix_sl (P := Try.prog) (b := g) (off := 0) (n := 8) (c := c) (d := i) Try.underlying93 sizeW hlt (by omega) (i : Int) rfl w'
                  have ih := fun w' => ix_sl (P := Try.prog) (b := bH) (off := oH) (n := 8) (c := hc) (d := oH + i) Try.underlying93 sizeW hlt rfl (i : Int) rfl w'
                  have HS := Lib.hid hs
                  have HW := Lib.hid (w_add x y)
                  have HAL := Lib.hid hal
                  have hkI : (0 : Int) ≤ (i : Int) ∧ (i : Int) < 8 := by omega
                  clear h7 hf hx hy hs hal
                  go_wp2_with fail
                  go_still_tail 12, (by kernel_rfl)
                  change wpList _ _ _ _ _ _
                  go_wp2
                  go_roundg (8 - (i + 1))
                  case measure => omega
                  case rel =>
                    have hle : w.heap.size ≤ g := by have := HGW.out; omega
                    refine ⟨i + 1, by omega, rfl, by go_num, ?_, (JF.out.setCell (.inr hle) _).drew⟩
                    have hb2 := (J7.out.set_ i (.int .u32 ((x + y).toNat : Int))).drew
                    have e : (u32s (addK V Hx i) ++ tl).toArray.setIfInBounds i (.int .u32 ((x + y).toNat : Int)) = (u32s (addK V Hx (i + 1)) ++ tl).toArray := by
                      rw [← HS.out]
                      have := HAL.out
                      simp only [List.setIfInBounds_toArray, List.set_append, u32s_length, this, if_pos hlt]
                      simp [u32s, List.map_set, u32v]
                    rw [e] at hb2
                    rw [HW.out]
                    exact hb2
                · obtain rfl : i = 8 := by omega
                  have e8 : addK V Hx 8 = (turnF Hx b).l := by rw [addK_all, turnF, HV.out]
                  rw [e8] at h7
                  have J8 := Lib.hid h7
                  clear h7 hf e8
                  go_wp2_with fail
                  go_ret
                  exact ⟨g, c, tl, rfl, J8.out, HC8.out, Nat.le_of_lt HGW.out, JF.out⟩
end Go.Proofs.Ytmmjihkcofgmmaa

/- SHA-256, the document's: With, Sum. -/
namespace Go.Proofs.Ytmmjihkcofgmmaa
open Go.RowKit

def WordsT (w : World) (e : Ending) (w' : World) : Prop := ∃ g, e = .returned (.slice (some ⟨g, 0, none⟩) 64 64) ∧ Blk w' g 108 (u32s Kw).toArray ∧ Fr [] w w'
set_option maxRecDepth 100000 in
theorem words_calls (w : World) : Calls Try.prog 56 #[] w (WordsT w) := by
  go_enter Try.func56, Try.ntmps56
  go_wp2_with (refine wpList_val (o := ⟨some 1, _, _, _, _, _⟩) rfl (.slice (some ⟨w.heap.size, 0, none⟩) 64 64) (w.alloc (.cells (u32s Kw).toArray 108)) (by kernel_rfl) ?_)
  go_ret
  exact ⟨_, rfl, Blk.new _ _ _, (Fr.refl _ _).alloc _⟩
theorem rd_mid {w : World} {g : Nat} {l : List UInt8} {tl : List Value} {t : TypeId} (h : Blk w g t (u8s l ++ tl).toArray) (k : Nat) : Rd w (some ⟨g, k, none⟩) (l.drop k) := fun _ => ⟨g, k, rfl, fun j x hx => by
  rw [List.getElem?_drop] at hx
  have hj : k + j < l.length := (List.getElem?_eq_some_iff.1 hx).1
  rw [h.cell, List.getElem?_toArray, List.getElem?_append_left (by simpa using hj), u8s_get, hx]; rfl⟩
theorem rdU_blk {w : World} {g : Nat} {l : List UInt32} {tl : List Value} {t : TypeId} (h : Blk w g t (u32s l ++ tl).toArray) : RdU w (some ⟨g, 0, none⟩) l := fun _ => ⟨g, 0, rfl, fun j x hx => by
  have hj : j < l.length := (List.getElem?_eq_some_iff.1 hx).1
  rw [h.cell, Nat.zero_add, List.getElem?_toArray, List.getElem?_append_left (by simpa using hj), u32s_get, hx]; rfl⟩
/-- the first i bytes of the digits -/
def digQ (V : V8) (i : Nat) : List UInt8 := (digB V).take i ++ List.replicate (32 - i) 0
theorem digQ_zero (V : V8) : digQ V 0 = List.replicate 32 0 := by simp [digQ]
theorem digQ_all (V : V8) : digQ V 32 = digB V := by unfold digQ; rw [List.take_of_length_le (by simp [digB])]; simp
theorem digQ_step (V : V8) (i : Nat) (hi : i < 32) : (digQ V i).set i (UInt8.ofNat ((V.l.getD (i / 4) 0).toNat / 256 ^ (3 - i % 4))) = digQ V (i + 1) := by
  have hd := digB_length V
  unfold digQ
  rw [List.set_append, if_neg (by rw [List.length_take, hd]; omega), List.length_take, hd, Nat.min_eq_left (by omega), Nat.sub_self, show 32 - i = (32 - (i + 1)) + 1 by omega, List.replicate_succ, List.set_cons_zero,
    List.take_succ_eq_append_getElem (by rw [hd]; exact hi)]
  simp [digB]
theorem dig_byteR (x m : Nat) (hm : m < 4) : ((x : Int) / 2 ^ (24 - 8 * m)).tmod 256 % 256 = ((UInt8.ofNat (x / 256 ^ (3 - m))).toNat : Int) := by
  have e : (2 : Nat) ^ (24 - 8 * m) = 256 ^ (3 - m) := by
    rw [show (256 : Nat) = 2 ^ 8 from rfl, ← Nat.pow_mul]; congr 1; omega
  have e2 : ((2 : Int) ^ (24 - 8 * m)) = ((256 ^ (3 - m) : Nat) : Int) := by rw [← e]; simp
  have h0 : (0 : Int) ≤ (x : Int) / 2 ^ (24 - 8 * m) := Int.ediv_nonneg (by omega) (Int.le_of_lt (Int.pow_pos (by omega)))
  rw [Int.tmod_eq_emod_of_nonneg h0, e2, UInt8.toNat_ofNat']
  omega
theorem padK_testN (N k : Nat) (hk : k ≤ padK N) : (N + 1 + k) % 64 = 56 ↔ k = padK N := by
  unfold padK at *
  omega
theorem pad_mod (N : Nat) : (N + 1 + padK N + 8) % 64 = 0 := by unfold padK; omega
theorem eight_byteR (N j : Nat) (hj : j < 8) : (8 * (N : Int) / 2 ^ (56 - 8 * j)).tmod 256 % 256 = ((UInt8.ofNat (8 * N / 256 ^ (7 - j))).toNat : Int) := by
  have h := eight_byte (8 * N) j hj
  rw [show ((8 * N : Nat) : Int) = 8 * (N : Int) by omega] at h
  have h0 : (0 : Int) ≤ 8 * (N : Int) / 2 ^ (56 - 8 * j) := Int.ediv_nonneg (by omega) (Int.le_of_lt (Int.pow_pos (by omega)))
  rw [Int.tmod_eq_emod_of_nonneg h0, ← h]
  omega
set_option maxHeartbeats 8000000 in
set_option maxRecDepth 100000 in
theorem with_calls (w : World) (A : Option Addr) (N c : Nat) (t : List UInt8) (hN : t.length = N) (hA : Rd w A t) (hbd : N ≤ 100000000) (KA : Option Addr) (kc : Nat) (hK : RdU w KA Kw) :
    Calls Try.prog 55 #[.slice A N c, .slice KA 64 kc] w (Agg (.agg (u8s (shaB t)).toArray) w) := by
  have HN := Lib.hid hN
  have hf0 := (Fr.refl [] w).alloc (.cells (zs 32).toArray 41)
  obtain ⟨W0, hW0⟩ : ∃ W0, w.alloc (.cells (zs 32).toArray 41) = W0 := ⟨_, rfl⟩
  have hbr := Blk.new w 41 (zs 32).toArray
  rw [hW0] at hf0 hbr
  have HA := Lib.hid (hA.fr hf0 (by simp)); have HK := Lib.hid hK; have HF0 := Lib.hid hf0; have HBR := Lib.hid hbr
  have hb1 : N ≤ 1000000000 := by omega
  have hb2 : N + 1 ≤ 1000000000 := by omega
  have hbI : (N : Int) ≤ 100000000 := by omega
  have HW0 := Lib.hid hW0
  clear hN hA hK hf0 hbr hW0
  go_enter Try.func55, Try.ntmps55
  go_upto_region 1 with (refine wpList_alloc_agg rfl 41 rfl (zs 32).toArray arr32_zero ?_)
  rw [HW0.out]
  go_upto_region 2 with (first
    | (at_builtin; refine copyU8 rfl (.tmp 12) (.tmp 13) rfl W0 _ rfl rfl rfl A N c t rfl HN.out HA.out hb1 ?_; intro g1 c1 w3 ho1 hf1; have HO1 := Lib.hid (ho1.alloc (.cells #[.int .u8 128] 5)); have HF1 := Lib.hid (hf1.alloc (.cells #[.int .u8 128] 5)); have HG1 := Lib.hid (ownB_at ho1).2.1; clear ho1 hf1)
    | (at_builtin; refine growU8 rfl (.tmp 14) (.tmp 15) rfl W0.heap.size _ N _ t rfl HO1.out _ 1 1 [128] rfl rfl (rd_128 w3 _) hb2 HF1.out.size ?_; intro g2 c2 w4 ho2 hf2; have HO2 := Lib.hid ho2; have HF2 := Lib.hid (HF1.out.trans' hf2 (fun x hx => by simp at hx; subst hx; exact .inr HG1.out)); clear ho2 hf2))
  have HO3 := Lib.hid (show w4.ownsRow W0.heap.size 5 1 (.slice (some ⟨g2, 0, none⟩) (N + 1 + 0) c2) (N + 1 + 0) (u8s (t ++ 128 :: List.replicate 0 0)) from HO2.out)
  clear HO1 HF1 HG1 HO2
  obtain ⟨K, hK⟩ : ∃ K, padK N = K := ⟨_, rfl⟩
  have hK64 : K < 64 := hK ▸ padK_lt N
  have HKE := Lib.hid hK
  clear hK
  go_loopg [5] K (fun gg v wr => ∃ (k g c' : Nat), k ≤ K ∧ gg = K - k ∧ v = .slice (some ⟨g, 0, none⟩) (N + 1 + k) c' ∧ wr.ownsRow W0.heap.size 5 1 (.slice (some ⟨g, 0, none⟩) (N + 1 + k) c') (N + 1 + k) (u8s (t ++ 128 :: List.replicate k 0)) ∧ Fr [] W0 wr)
  case atStart => exact ⟨0, _, _, by omega, by omega, rfl, HO3.out, HF2.out⟩
  case round =>
    obtain ⟨k, g, c', hk, rfl, rfl, ho, hf⟩ := hrel
    have HO := Lib.hid ho; have HF := Lib.hid hf
    clear ho hf
    obtain ⟨M, hM⟩ : ∃ M, N + 1 + k = M := ⟨_, rfl⟩
    have HMM := Lib.hid hM
    have hM0 : (0 : Int) ≤ (M : Int) := by omega
    have hMb : (M : Int) ≤ 100000100 := by omega
    have hMb1 : M + 1 ≤ 1000000000 := by omega
    have hte := padK_testN N k (by rw [HKE.out]; exact hk)
    rw [HKE.out, hM] at hte
    rw [hM]
    by_cases hlt : k = K
    · have htI : ((M : Int) % 64 == 56) = true := by rw [beq_iff_eq]; have := hte.2 hlt; omega
      have htJ : ((M : Int) % 64 != 56) = false := by rw [bne_eq_false_iff_eq]; have := hte.2 hlt; omega
      subst hlt
      have HO4 := Lib.hid HO.out
      rw [hM] at HO4
      clear hM hte
      go_upto_region 6 with fail
      obtain ⟨wo, rfl⟩ : ∃ wo : World, wo = wr := ⟨_, rfl⟩
      obtain ⟨base, hbase⟩ : ∃ x, t ++ 128 :: List.replicate k 0 = x := ⟨_, rfl⟩
      rw [hbase] at HO4
      have HBASE := Lib.hid hbase
      clear hbase HO
      go_loopg [5, 7] 8 (fun gg v u wr => ∃ (j g c' : Nat), j ≤ 8 ∧ gg = 8 - j ∧ u = .int .i64 j ∧ v = .slice (some ⟨g, 0, none⟩) (M + j) c' ∧ wr.ownsRow W0.heap.size 5 1 (.slice (some ⟨g, 0, none⟩) (M + j) c') (M + j) (u8s (base ++ (eightB (8 * N)).take j)) ∧ Fr [] W0 wr)
      case atStart => exact ⟨0, g, c', by omega, by omega, rfl, rfl, by simpa using HO4.out, HF.out⟩
      case round =>
        obtain ⟨j, g, c', hj, rfl, rfl, rfl, ho, hf⟩ := hrel
        have JO := Lib.hid ho; have JF := Lib.hid hf
        clear ho hf
        by_cases hlj : j < 8
        · have HY := Lib.hid (eight_byteR N j hlj)
          obtain ⟨y, hy⟩ : ∃ y, UInt8.ofNat (8 * N / 256 ^ (7 - j)) = y := ⟨_, rfl⟩
          rw [hy] at HY
          have HE := Lib.hid hy
          have hjI : (0 : Int) ≤ (j : Int) ∧ (j : Int) < 8 := by omega
          have hMj : M + j + 1 ≤ 1000000000 := by omega
          have JO1 := Lib.hid (JO.out.alloc (.cells #[u8v y] 5))
          have JF1 := Lib.hid (JF.out.alloc (.cells #[u8v y] 5))
          have JG1 := Lib.hid (ownB_at JO.out).2.1
          clear hy htI htJ
          go_wp2_with (at_builtin; rw [HY.out]; refine growU8 rfl (.tmp 32) (.tmp 41) rfl W0.heap.size _ (M + j) _ (base ++ (eightB (8 * N)).take j) rfl JO1.out _ 1 1 [y] rfl rfl (rd_one wr y _) hMj JF1.out.size ?_; intro g3 c3 w5 ho3 hf3; have JO2 := Lib.hid ho3; have JF2 := Lib.hid (JF1.out.trans' hf3 (fun x hx => by simp at hx; subst hx; exact .inr JG1.out)); clear ho3 hf3)
          go_roundg (8 - (j + 1))
          case measure => omega
          case rel =>
            have e := eightB_step (8 * N) j hlj
            rw [HE.out] at e
            have ho := JO2.out
            rw [List.append_assoc, e] at ho
            exact ⟨j + 1, _, _, by omega, rfl, by go_num, rfl, ho, JF2.out⟩
        · obtain rfl : j = 8 := by omega
          obtain ⟨hlen7, hg7, hc7, hcm7, tl7, hblk7⟩ := ownB_at JO.out
          have haE : base ++ (eightB (8 * N)).take 8 = padB t := by
            rw [← HBASE.out, List.take_of_length_le (by rw [eightB_length]; omega)]
            unfold padB tailB
            rw [HN.out, HKE.out]
            simp
          rw [haE] at hlen7 hblk7
          obtain ⟨all, hall⟩ : ∃ all, padB t = all := ⟨_, rfl⟩
          rw [hall] at hlen7 hblk7
          obtain ⟨T, hT⟩ : ∃ T, M + 8 = T := ⟨_, rfl⟩
          rw [hT] at hlen7 hc7 ⊢
          have hT64 : T % 64 = 0 := by
            have h1 := pad_mod N
            have h2 := HKE.out
            have h3 := HMM.out
            omega
          obtain ⟨Q, hQ⟩ : ∃ Q, T = 64 * Q := ⟨T / 64, by omega⟩
          have hTb : (T : Int) ≤ 100001000 := by omega
          have hTI : (0 : Int) ≤ (T : Int) := by omega
          have HALL := Lib.hid hall; have HLEN := Lib.hid hlen7; have HQ := Lib.hid hQ; have HB7 := Lib.hid hblk7; have HG7 := Lib.hid hg7
          have HFF := Lib.hid JF.out
          have R0 := Lib.hid (HBR.out.fr HFF.out (by simp)); have RF := Lib.hid (HF0.out.trans HFF.out)
          have hc7I : (T : Int) ≤ (c' : Int) := by omega
          clear hT64 hall hlen7 hblk7 haE hT hQ hg7 hcm7 JO JF HO4 HF htI htJ
          obtain ⟨wo4, rfl⟩ : ∃ wo4 : World, wo4 = wr := ⟨_, rfl⟩
          go_upto_region 11 with (refine wpList_val (o := ⟨some 43, _, _, _, _, _⟩) rfl (.slice (some ⟨wo4.heap.size, 0, none⟩) 8 8) (wo4.alloc (.cells (u32s H0.l).toArray 108)) (by kernel_rfl) ?_)
          change Code.wp _ _ _ _ (wo4.alloc (.cells (u32s H0.l).toArray 108))
          have hbh := Blk.new wo4 108 (u32s H0.l).toArray
          have hb8 := HB7.out.alloc (.cells (u32s H0.l).toArray 108)
          have hr8 := R0.out.alloc (.cells (u32s H0.l).toArray 108)
          have hf8 := RF.out.alloc (.cells (u32s H0.l).toArray 108)
          have HBH := Lib.hid (show Blk _ _ _ (u32s H0.l ++ []).toArray by rw [List.append_nil]; exact hbh)
          have HB8 := Lib.hid hb8; have HR8 := Lib.hid hr8; have HF8 := Lib.hid hf8
          clear hbh hb8 hr8 hf8
          go_loopg [8, 9] Q (fun gg v u wr => ∃ (q gh ch : Nat) (tl : List Value), q ≤ Q ∧ gg = Q - q ∧ u = .int .i64 (64 * (q : Int)) ∧ v = .slice (some ⟨gh, 0, none⟩) 8 ch ∧ 8 ≤ ch ∧ Blk wr gh 108 (u32s (turnN H0 all q).l ++ tl).toArray ∧
            Blk wr g 5 (u8s all ++ tl7).toArray ∧ Blk wr w.heap.size 41 (zs 32).toArray ∧ Fr [] w wr)
          case atStart => exact ⟨0, _, 8, [], by omega, by omega, rfl, rfl, by omega, HBH.out, HB8.out, HR8.out, HF8.out⟩
          case round =>
            obtain ⟨q, gh, ch, tl, hq, rfl, rfl, rfl, hch, hbh, hba, hbr, hf⟩ := hrel
            have K1 := Lib.hid hbh; have K2 := Lib.hid hba; have K3 := Lib.hid hbr; have K4 := Lib.hid hf; have KC := Lib.hid hch
            have hqe := HQ.out
            by_cases hlq : q < Q
            · have hqI : 64 * (q : Int) < (T : Int) := by omega
              have hq0 : (0 : Int) ≤ 64 * (q : Int) := by omega
              have hq64 : 64 * (q : Int) + 64 ≤ (T : Int) := by omega
              have hqc : 64 * (q : Int) + 64 ≤ (c' : Int) := by omega
              obtain ⟨VK, hVK⟩ : ∃ x, turnN H0 all q = x := ⟨_, rfl⟩
              rw [hVK] at K1
              obtain ⟨VN, hVN⟩ : ∃ x, turnF VK ((all.drop (64 * q)).take 64) = x := ⟨_, rfl⟩
              have hb64 : ((all.drop (64 * q)).take 64).length = 64 := by rw [List.length_take, List.length_drop, HLEN.out]; omega
              have ht := rturn_calls wr VK (some ⟨gh, 0, none⟩) ch (rdU_blk K1.out) (some ⟨g, 64 * q, none⟩) (c' - 64 * q) _ hb64 ((rd_mid K2.out (64 * q)).take 64) KA kc (HK.out.fr K4.out (by simp))
              rw [hVN] at ht
              have HT := Lib.hid ht; have HVK := Lib.hid hVK; have HVN := Lib.hid hVN
              clear hbh hba hbr hf hch hqe hVK hVN hb64 ht
              go_wp2_with (go_at_call 68; (with_reducible refine HT.out.mono ?_); rintro e w9 ⟨g9, c9, tl9, rfl, hb9, hc9, hg9, hf9⟩; have J1 := Lib.hid hb9; have J2 := Lib.hid (K2.out.fr hf9 (by simp)); have J3 := Lib.hid (K3.out.fr hf9 (by simp)); have J4 := Lib.hid (K4.out.trans hf9); have JC := Lib.hid hc9; clear hb9 hc9 hg9 hf9)
              go_roundg (Q - (q + 1))
              case measure => omega
              case rel =>
                refine ⟨q + 1, g9, c9, tl9, by omega, rfl, by congr 1, rfl, JC.out, ?_, J2.out, J3.out, J4.out⟩
                rw [turnN, HVK.out, HVN.out]
                exact J1.out
            · obtain rfl : q = Q := by omega
              have hVF : turned (padB t) = turnN H0 all q := by unfold turned; rw [HALL.out, show all.length / 64 = q by rw [HLEN.out]; omega]
              obtain ⟨VF, hVFe⟩ : ∃ x, turnN H0 all q = x := ⟨_, rfl⟩
              rw [hVFe] at hVF K1
              have HSH := Lib.hid (show shaB t = digB VF by unfold shaB; rw [hVF])
              have hqI : (T : Int) = 64 * (q : Int) := by omega
              obtain ⟨D, hD⟩ : ∃ D, wr.heap.size = D := ⟨_, rfl⟩
              have HD := Lib.hid hD
              have HDB := Lib.hid (show Blk (wr.alloc (.cells (zs 32).toArray 41)) D 41 (u8s (digQ VF 0)).toArray by rw [digQ_zero, ← hD]; exact Blk.new _ _ _)
              have HHB := Lib.hid (K1.out.alloc (.cells (zs 32).toArray 41))
              have HRB := Lib.hid (K3.out.alloc (.cells (zs 32).toArray 41))
              have HFD := Lib.hid (K4.out.alloc (.cells (zs 32).toArray 41))
              have HDW := Lib.hid (show w.heap.size < D by have := K3.out.lt; omega)
              have HDG := Lib.hid (show gh ≠ D by have := K1.out.lt; omega)
              clear hbh hba hbr hf hch hqe hVF hVFe hD
              go_wp2_with (refine alloc_at rfl 41 rfl (zs 32).toArray arr32_zero D HD.out ?_)
              obtain ⟨wo6, rfl⟩ : ∃ wo6 : World, wo6 = wr := ⟨_, rfl⟩
              go_loopg [11] 32 (fun gg u wr => ∃ i : Nat, i ≤ 32 ∧ gg = 32 - i ∧ u = .int .i64 i ∧ Blk wr D 41 (u8s (digQ VF i)).toArray ∧ Blk wr gh 108 (u32s VF.l ++ tl).toArray ∧ Blk wr w.heap.size 41 (zs 32).toArray ∧ Fr [] w wr)
              case atStart => exact ⟨0, by omega, by omega, rfl, HDB.out, HHB.out, HRB.out, HFD.out⟩
              case round =>
                obtain ⟨i, hi, rfl, rfl, hd, hh, hr, hf⟩ := hrel
                have LD := Lib.hid hd; have LH := Lib.hid hh; have LR := Lib.hid hr; have LF := Lib.hid hf
                by_cases hli : i < 32
                · obtain ⟨x, hx⟩ : ∃ x, VF.l.getD (i / 4) 0 = x := ⟨_, rfl⟩
                  have hl8 : VF.l.length = 8 := rfl
                  have cx : wr.cell? ⟨gh, i / 4, none⟩ = some (.int .u32 (x.toNat : Int)) := by
                    rw [hh.cell, List.getElem?_toArray, List.getElem?_append_left (by simp [hl8]; omega), u32s_get, ← hx]
                    simp [List.getD, show i / 4 < VF.l.length by omega, u32v]
                  have ix := fun w' => ix_sl (P := Try.prog) (b := gh) (off := 0) (n := 8) (c := ch) (d := i / 4) Try.underlying93 sizeW (show i / 4 < 8 by omega) (by omega) ((i : Int) / 4) (by omega) w'
                  have iD := fun w' => run_index_arr (P := Try.prog) (b := D) Try.underlying41 size_u8 hli (i : Int) rfl w'
                  obtain ⟨old, hold⟩ : ∃ old, wr.cell? ⟨D, i, none⟩ = some old := by
                    rw [hd.cell, List.getElem?_toArray]
                    exact ⟨(u8s (digQ VF i))[i]'(by simp [digQ, digB]; omega), by simp⟩
                  have hz := hd.frozen i
                  have hiI : (0 : Int) ≤ (i : Int) ∧ (i : Int) < 32 := by omega
                  have HS := Lib.hid (digQ_step VF i hli)
                  have HX := Lib.hid hx
                  clear hd hh hr hf hx hl8
                  go_wp2_with fail
                  go_roundg (32 - (i + 1))
                  case measure => omega
                  case rel =>
                    have hne : w.heap.size ≠ D := by have := HDW.out; omega
                    have hle : w.heap.size ≤ D := by have := HDW.out; omega
                    have hv := dig_byteR x.toNat (i % 4) (by omega)
                    obtain ⟨y, hy⟩ : ∃ y, UInt8.ofNat (x.toNat / 256 ^ (3 - i % 4)) = y := ⟨_, rfl⟩
                    rw [hy] at hv
                    rw [hv]
                    have hb2 := LD.out.set_ i (.int .u8 (y.toNat : Int))
                    have hs := HS.out
                    rw [HX.out, hy] at hs
                    rw [u8s_set, hs] at hb2
                    exact ⟨i + 1, by omega, rfl, by go_num, hb2, LH.out.far (p := ⟨D, i, none⟩) HDG.out _, LR.out.far (p := ⟨D, i, none⟩) hne _, LF.out.setCell (.inr hle) _⟩
                · obtain rfl : i = 32 := by omega
                  rw [digQ_all] at hd
                  have h32 : (digB VF).length = 32 := digB_length VF
                  have HC32 := Lib.hid (show ∀ j v, (u8s (digB VF))[j]? = some v → wr.cell? ⟨D, 0 + j, none⟩ = some v from fun j v hv => by rw [hd.cell, List.getElem?_toArray, Nat.zero_add]; exact hv)
                  have HSP := Lib.hid (splice_32 (digB VF) h32)
                  have HSI := Lib.hid (dig_size (digB VF) h32)
                  have HFT := Lib.hid (show 0 + (u8s (digB VF)).length ≤ (zs 32).length by simp [zs_length, h32])
                  clear hd hh hr hf h32
                  go_wp2_with (first
                    | (refine wpList_load_agg rfl 41 (.tmp 10) rfl D 0 rfl (u8s (digB VF)) _ HC32.out Try.underlying41 rfl HSI.out ?_)
                    | (refine wpList_store_agg rfl 41 (.tmp 4) (.tmp 77) rfl w.heap.size 0 rfl (u8s (digB VF)) rfl (zs 32) 41 LR.out HFT.out (u8s_one _) HSI.out ?_))
                  have hb6 := LR.out.setRow_ (splice (zs 32) 0 (u8s (digB VF))).toArray
                  rw [HSP.out] at hb6 ⊢
                  refine bodyPost_ret (results_cell_row (p := 4) (ty := 41) rfl _ _ w.heap.size 41 (u8s (digB VF)).toArray (0, 0) _ rfl hb6 Try.underlying41 rfl (by rw [List.size_toArray]; exact HSI.out)) rfl ?_
                  rw [HSH.out]
                  exact ⟨rfl, LF.out.setRow (.inr (Nat.le_refl _)) _⟩
    · have htI : ((M : Int) % 64 == 56) = false := by rw [beq_eq_false_iff_ne]; have h := fun h => hlt (hte.1 h); omega
      have htJ : ((M : Int) % 64 != 56) = true := by rw [bne_iff_ne]; have h := fun h => hlt (hte.1 h); omega
      have HLT := Lib.hid hlt
      have HO1 := Lib.hid (HO.out.alloc (.cells #[.int .u8 0] 5)); have HF1 := Lib.hid (HF.out.alloc (.cells #[.int .u8 0] 5)); have HG1 := Lib.hid (ownB_at HO.out).2.1
      rw [hM] at HO1
      clear hM hte hlt
      go_wp2_with (at_builtin; refine growU8 rfl (.tmp 21) (.tmp 22) rfl W0.heap.size _ M _ (t ++ 128 :: List.replicate k 0) rfl HO1.out _ 1 1 [0] rfl rfl (rd_000 wr _) hMb1 HF1.out.size ?_; intro g2 c2 w4 ho2 hf2; have HO2 := Lib.hid ho2; have HF2 := Lib.hid (HF1.out.trans' hf2 (fun x hx => by simp at hx; subst hx; exact .inr HG1.out)); clear ho2 hf2)
      go_roundg (K - (k + 1))
      case measure => have := HLT.out; omega
      case rel =>
        have hkk := HLT.out; have hm1 := HMM.out
        have ho := HO2.out
        rw [eights_split N K _ HN.out, ← hm1] at ho
        exact ⟨k + 1, _, _, by omega, rfl, by rw [← hm1]; rfl, ho, HF2.out⟩
set_option maxHeartbeats 1000000 in
theorem rsum_calls (w : World) (A : Option Addr) (n c : Nat) (l : List UInt8) (hn : l.length = n) (hA : Rd w A l) (hbd : n ≤ 100000000) :
    Calls Try.prog 42 #[.slice A n c] w (Agg (.agg (u8s (shaB l)).toArray) w) := by
  have HB := Lib.hid (Blk.new w 41 (zs 32).toArray)
  have hf0 := (Fr.refl [] w).alloc (.cells (zs 32).toArray 41)
  have HWD := Lib.hid (words_calls (w.alloc (.cells (zs 32).toArray 41)))
  have HA := Lib.hid (hA.fr hf0 (by simp)); have HF0 := Lib.hid hf0; have HN := Lib.hid hn
  have hl32 := shaB_length l
  have HSP := Lib.hid (splice_32 (shaB l) hl32)
  have HSI := Lib.hid (dig_size (shaB l) hl32)
  have HFT := Lib.hid (show 0 + (u8s (shaB l)).length ≤ (zs 32).length by simp [zs_length, hl32])
  clear hA hf0 hn hl32
  go_enter Try.func42, Try.ntmps42
  go_wp2_with (first
    | (refine wpList_alloc_agg rfl 41 rfl (zs 32).toArray arr32_zero ?_)
    | (go_at_call 56; (with_reducible refine HWD.out.mono ?_); rintro e w1 ⟨gk, rfl, hbk, hf1⟩; have HF1 := Lib.hid hf1; have HB1 := Lib.hid (HB.out.fr hf1 (by simp)); have HWI := Lib.hid (with_calls w1 A n c l HN.out (HA.out.fr hf1 (by simp)) hbd (some ⟨gk, 0, none⟩) 64 (rdU_blk (tl := []) (by rw [List.append_nil]; exact hbk))); clear hbk hf1)
    | (go_at_call 55; (with_reducible refine HWI.out.mono ?_); rintro e w3 ⟨rfl, hf3⟩; have HF3 := Lib.hid hf3; have HB3 := Lib.hid (HB1.out.fr hf3 (by simp)); clear hf3)
    | (refine wpList_store_agg rfl 41 (.tmp 2) (.tmp 5) rfl w.heap.size 0 rfl (u8s (shaB l)) rfl (zs 32) 41 HB3.out HFT.out (u8s_one _) HSI.out ?_))
  have hb6 := HB3.out.setRow_ (splice (zs 32) 0 (u8s (shaB l))).toArray
  rw [HSP.out] at hb6 ⊢
  refine bodyPost_ret (results_cell_row (p := 2) (ty := 41) rfl _ _ w.heap.size 41 (u8s (shaB l)).toArray (0, 0) _ rfl hb6 Try.underlying41 rfl (by rw [List.size_toArray]; exact HSI.out)) rfl ?_
  exact ⟨rfl, (((HF0.out.trans HF1.out).trans HF3.out)).setRow (.inr (Nat.le_refl _)) _⟩
end Go.Proofs.Ytmmjihkcofgmmaa

/- A drawn region walked in order, where old memory stands: with guards. -/
namespace Go.Proofs.Ytmmjihkcofgmmaa
open Go.RowKit
set_option linter.unusedVariables false

section
variable {P : Program} {md : Region.Mode} {ops : Array Oper} {Q : Exit → Act → World → Prop}
/-- what was there stands -/
def OldW (w0 : World) (w : World) : Prop := Fr [] w0 w
theorem OldW.step {a b c : World} (h : OldW a b) (k : Fr [] b c) : OldW a c := Fr.trans h k
theorem sqo_take {w0 : World} {i : Nat} {oi : Oper} {v : Value} {d : Tmp} {fuel : Nat} {listed : Array Bool} {a : Act} {w : World} (hi : ops[i]? = some oi) (hd : oi.dst = some d) (hg : Region.wanted oi (yielded ops a.tmps) = true)
    (hs : Region.noSelect ops = true) (hf : Region.free md ops listed i = true) (hr : (Region.ready md ops listed).contains i = true)
    (hQ : ∀ c a w, Q (.panic c) (a.put (some d) v) w → Q (.panic c) a w) (hy : ∀ w', OldW w0 w' → (execOp a.eval oi).run P w' = .ok (.value v) w') (hS : OldW w0 w)
    (h : wpAnyH P md ops Q (OldW w0) fuel (listed.setIfInBounds i true) (a.put (some d) v) w) : wpAnyH P md ops Q (OldW w0) (fuel + 1) listed a w :=
  wpAnyH_take hi hs hf hr (by rw [hd]; exact hQ) (Or.inl ⟨hg, hy⟩) hS (by rw [hd]; exact h)
theorem sqo_pass {w0 : World} {i : Nat} {oi : Oper} {d : Tmp} {fuel : Nat} {listed : Array Bool} {a : Act} {w : World} (hi : ops[i]? = some oi) (hd : oi.dst = some d) (hg : Region.wanted oi (yielded ops a.tmps) = false)
    (hs : Region.noSelect ops = true) (hf : Region.free md ops listed i = true) (hr : (Region.ready md ops listed).contains i = true)
    (hQ : ∀ c a w, Q (.panic c) (a.put (some d) undef) w → Q (.panic c) a w) (hS : OldW w0 w)
    (h : wpAnyH P md ops Q (OldW w0) fuel (listed.setIfInBounds i true) (a.put (some d) undef) w) : wpAnyH P md ops Q (OldW w0) (fuel + 1) listed a w :=
  wpAnyH_take (v := undef) hi hs hf hr (by rw [hd]; exact hQ) (Or.inr ⟨hg, rfl⟩) hS (by rw [hd]; exact h)
theorem sqo_only {w0 : World} {i : Nat} {o : Oper} {fuel : Nat} {listed : Array Bool} {a : Act} {w : World} (hi : ops[i]? = some o) (hg : Region.wanted o (yielded ops a.tmps) = true) (hr : Region.ready md ops listed = [i])
    (h : Oper.wp P o a w (fun a' w' => OldW w0 w' ∧ wpAnyH P md ops Q (OldW w0) fuel (listed.setIfInBounds i true) a' w') Q) : wpAnyH P md ops Q (OldW w0) (fuel + 1) listed a w := by
  refine wpAnyH_all hr (by simp) fun j hj => ?_
  obtain rfl := List.mem_singleton.1 hj
  unfold wpOp
  rw [hi]
  simp only [hg, if_true]
  exact .inl h
theorem sqo_begin {w0 : World} {id : Nat} {a : Act} {w : World} (hm : P.follows .mixedOrders = true)
    (h : wpAnyH P .any ops Q (OldW w0) ops.size (Array.replicate ops.size false) a w.drew) : (Code.region id ops true).wp P Q a w := wp_region_held hm h
end
end Go.Proofs.Ytmmjihkcofgmmaa

/- Preimages, the document's. -/
namespace Go.Proofs.Ytmmjihkcofgmmaa
open Go.RowKit
set_option maxRecDepth 100000
set_option linter.unusedVariables false

theorem eight_byteM (m j : Nat) (hj : j < 8) : ((m : Int) / 2 ^ (56 - 8 * j)).tmod 256 % 256 = ((UInt8.ofNat (m / 256 ^ (7 - j))).toNat : Int) := by
  have h := eight_byte m j hj
  have h0 : (0 : Int) ≤ (m : Int) / 2 ^ (56 - 8 * j) := Int.ediv_nonneg (by omega) (Int.le_of_lt (Int.pow_pos (by omega)))
  rw [Int.tmod_eq_emod_of_nonneg h0, ← h]
  omega
set_option maxHeartbeats 4000000 in
theorem rpre_calls (w : World) (tag : UInt8) (TA : Option Addr) (n c : Nat) (ts : List (List UInt8)) (hn : ts.length = n) (hT : TxIn w TA ts) (hbd : (preB tag ts).length ≤ 100000000) (hnb : n ≤ 100000000) :
    Calls Try.prog 43 #[.int .u8 (tag.toNat : Int), .slice TA n c] w (OwnB w (preB tag ts)) := by
  have HT := Lib.hid hT; have HN := Lib.hid hn
  have HO0 := Lib.hid (own_one w w.heap.size (Nat.le_refl _) tag)
  have HF0 := Lib.hid ((Fr.refl [] w).alloc (.cells #[u8v tag] 5))
  have hnI : (n : Int) ≤ 100000000 := by omega
  clear hT hn
  go_enter Try.func43, Try.ntmps43
  go_wp2_with fail
  go_loopg [5, 6] n (fun gg v u wr => ∃ (k g c' : Nat), k ≤ n ∧ gg = n - k ∧ u = .int .i64 k ∧ v = .slice (some ⟨g, 0, none⟩) (preB tag (ts.take k)).length c' ∧
    wr.ownsRow w.heap.size 5 1 (.slice (some ⟨g, 0, none⟩) (preB tag (ts.take k)).length c') (preB tag (ts.take k)).length (u8s (preB tag (ts.take k))) ∧ Fr [] w wr)
  case atStart => exact ⟨0, w.heap.size, 1, by omega, by omega, rfl, rfl, HO0.out, HF0.out⟩
  case round =>
    obtain ⟨k, g, c', hk, rfl, rfl, rfl, ho, hf⟩ := hrel
    have HO := Lib.hid ho; have HF := Lib.hid hf
    clear ho hf
    by_cases hlt : k < n
    · obtain ⟨t, ht⟩ : ∃ t, ts[k]? = some t := ⟨ts[k]'(by have := HN.out; omega), by simp⟩
      obtain ⟨b, off, A, ct, hA, hbw, hc0, hr⟩ := HT.out k t ht
      subst hA
      have hc : wr.cell? ⟨b, off + k, none⟩ = some (.slice A t.length ct) := by rw [HF.out.cell (p := ⟨b, off + k, none⟩) hbw (by simp)]; exact hc0
      have hstep := preB_step tag ts k t ht
      have hle := preB_take_le tag ts (k + 1)
      rw [← hstep] at hle
      have hix := fun w' => ix_sl0 (P := Try.prog) (b := b) (off := off) (n := n) (c := c) Try.underlying25 size_sl hlt w'
      obtain ⟨L, hL⟩ : ∃ L, (preB tag (ts.take k)).length = L := ⟨_, rfl⟩
      obtain ⟨m, hm⟩ : ∃ m, t.length = m := ⟨_, rfl⟩
      rw [hm] at hc hc0
      have HC0 := Lib.hid hc0; have HBW := Lib.hid hbw
      rw [List.length_append, List.length_append, eightB_length, hL, hm] at hle
      rw [hL]
      have HO1 := Lib.hid HO.out
      rw [hL] at HO1
      have hmI : (m : Int) ≤ 100000000 := by omega
      have HSTEP := Lib.hid hstep; have HM := Lib.hid hm; have HL := Lib.hid hL; have HR := Lib.hid hr
      have hkI : (0 : Int) ≤ (k : Int) ∧ (k : Int) < (n : Int) := by omega
      have hLm : L + 8 + m ≤ 100000000 := by omega
      clear hstep hm hL hr ht hle hbw hc0
      go_wp2_with fail
      obtain ⟨wo, rfl⟩ : ∃ wo : World, wo = wr := ⟨_, rfl⟩
      go_loopg [5, 8] 8 (fun gg v u wr => ∃ (j g c' : Nat), j ≤ 8 ∧ gg = 8 - j ∧ u = .int .i64 j ∧ v = .slice (some ⟨g, 0, none⟩) (L + j) c' ∧
        wr.ownsRow w.heap.size 5 1 (.slice (some ⟨g, 0, none⟩) (L + j) c') (L + j) (u8s (preB tag (ts.take k) ++ (eightB m).take j)) ∧ Fr [] w wr)
      case atStart => exact ⟨0, g, c', by omega, by omega, rfl, rfl, by simpa using HO1.out, HF.out⟩
      case round =>
        obtain ⟨j, g, c', hj, rfl, rfl, rfl, ho, hf⟩ := hrel
        have JO := Lib.hid ho; have JF := Lib.hid hf
        clear ho hf hc
        by_cases hlj : j < 8
        · have HY := Lib.hid (eight_byteM m j hlj)
          obtain ⟨y, hy⟩ : ∃ y, UInt8.ofNat (m / 256 ^ (7 - j)) = y := ⟨_, rfl⟩
          rw [hy] at HY
          have HE := Lib.hid hy
          have hjI : (0 : Int) ≤ (j : Int) ∧ (j : Int) < 8 := by omega
          have hMj : L + j + 1 ≤ 1000000000 := by omega
          have JO1 := Lib.hid (JO.out.alloc (.cells #[u8v y] 5))
          have JF1 := Lib.hid (JF.out.alloc (.cells #[u8v y] 5))
          have JG1 := Lib.hid (ownB_at JO.out).2.1
          clear hy
          go_wp2_with (at_builtin; rw [HY.out]; refine growU8 rfl (.tmp 27) (.tmp 36) rfl w.heap.size _ (L + j) _ (preB tag (ts.take k) ++ (eightB m).take j) rfl JO1.out _ 1 1 [y] rfl rfl (rd_one wr y _) hMj JF1.out.size ?_; intro g3 c3 w5 ho3 hf3; have JO2 := Lib.hid ho3; have JF2 := Lib.hid (JF1.out.trans' hf3 (fun x hx => by simp at hx; subst hx; exact .inr JG1.out)); clear ho3 hf3)
          go_roundg (8 - (j + 1))
          case measure => omega
          case rel =>
            have e := eightB_step m j hlj
            rw [HE.out] at e
            have ho := JO2.out
            rw [List.append_assoc, e] at ho
            exact ⟨j + 1, _, _, by omega, rfl, by go_num, rfl, ho, JF2.out⟩
        · obtain rfl : j = 8 := by omega
          have JO8 := Lib.hid JO.out
          rw [List.take_of_length_le (show (eightB m).length ≤ 8 by rw [eightB_length]; omega)] at JO8
          have hc : wr.cell? ⟨b, off + k, none⟩ = some (.slice A m ct) := by rw [JF.out.cell (p := ⟨b, off + k, none⟩) HBW.out (by simp)]; exact HC0.out
          have HRT := Lib.hid (HR.out.fr JF.out (by simp))
          have HSZ := Lib.hid JF.out.size
          have hb9 : L + 8 + m ≤ 1000000000 := by omega
          go_wp2_with (at_builtin; refine growU8 rfl (.tmp 38) (.tmp 42) rfl w.heap.size _ (L + 8) _ (preB tag (ts.take k) ++ eightB m) rfl JO8.out A m ct t rfl HM.out HRT.out hb9 HSZ.out ?_; intro g8 c8 w8 ho8 hf8; have HO8 := Lib.hid ho8; have HF8 := Lib.hid (JF.out.trans' hf8 (fun x hx => by simp at hx; subst hx; exact .inr (ownB_at JO8.out).2.1)); clear ho8 hf8)
          go_roundg (n - (k + 1))
          case measure => omega
          case rel =>
            have e := HSTEP.out
            rw [HM.out] at e
            have el : (preB tag (ts.take (k + 1))).length = L + 8 + m := by rw [← e, List.length_append, List.length_append, eightB_length, HL.out, HM.out]
            have ho := HO8.out
            rw [e] at ho
            exact ⟨k + 1, g8, c8, by omega, rfl, by go_num, by rw [el], by rw [el]; exact ho, HF8.out⟩
    · obtain rfl : k = n := by omega
      go_wp2_with fail
      go_ret
      have e : ts.take k = ts := List.take_of_length_le (by have := HN.out; omega)
      have ho := HO.out
      rw [e] at ho ⊢
      exact OwnB.mk' ho HF.out
end Go.Proofs.Ytmmjihkcofgmmaa

/- How arguments read: slices of bytes, slices of structs; over any program. -/
namespace Go.Proofs.Ytmmjihkcofgmmaa
open Go.ChangeShapes Go.WideShapes Go.ChangeAt Go.RowKit

def u8n (x : Int) : UInt8 := UInt8.ofNat x.toNat
theorem u8n_spec (x : Int) (h0 : 0 ≤ x) (h1 : x < 256) : x = ((u8n x).toNat : Int) := by
  unfold u8n
  rw [UInt8.toNat_ofNat']
  omega
theorem wf_u8 {n : Int} (wn : (Lit.int .u8 n).wf = true) : 0 ≤ n ∧ n ≤ 255 := by simpa [Lit.wf, IntKind.min, IntKind.max, IntKind.signed, IntKind.bits] using wn
theorem wf_i64 {n : Int} (wn : (Lit.int .i64 n).wf = true) : -9223372036854775808 ≤ n ∧ n ≤ 9223372036854775807 := by simpa [Lit.wf, IntKind.min, IntKind.max, IntKind.signed, IntKind.bits] using wn
theorem byte_n {n : Int} (wn : (Lit.int .u8 n).wf = true) : ∃ y : UInt8, n = (y.toNat : Int) :=
  ⟨u8n n, u8n_spec n (wf_u8 wn).1 (by have := (wf_u8 wn).2; omega)⟩

section
variable {H : Type} {enc : TypeId × Value → H} {P : Program} {w : World} {spare : Nat → Bool} {held : Bool}
/-- A slice of bytes, as the reader has it. -/
theorem open_bytes {t e : TypeId} {fuel : Nat} {cs : List Value} {x : DataW H × List MemPlace} (ht : P.underlying t = some (.slice e)) (he : P.underlying e = some (.int .u8)) (hc : P.cellsOf e = 1)
    (h : DataW.trod enc P w 0 spare held fuel t cs = some x) :
    ∃ A l c, cs = [.slice A (List.length l) c] ∧ l.length ≤ c ∧ c ≤ maxLen ∧ Rd w A l := by
  rcases open_ints ht he hc h with ⟨rfl, _⟩ | ⟨a, len, cap, zs, rfl, _, hl, hm, hz, _, hcell, hwz⟩
  · exact ⟨none, [], 0, rfl, by simp, by simp, fun h => by simp at h⟩
  · have hlen : len ≤ zs.length := by rw [hz]; split <;> omega
    refine ⟨some a, (zs.take len).map u8n, cap, by simp [Nat.min_eq_left hlen], by simp; omega, hm, fun hp => ?_⟩
    obtain ⟨b, off, spot⟩ := a
    have hp' : 0 < zs.length := by simp at hp; omega
    have hs : spot = none := by simpa [Addr.add] using World.cell?_spot (hcell 0 hp')
    subst hs
    refine ⟨b, off, rfl, fun j y hy => ?_⟩
    simp only [List.getElem?_map, Option.map_eq_some_iff] at hy
    obtain ⟨z, hz', rfl⟩ := hy
    rw [List.getElem?_take] at hz'
    split at hz'
    · have hj : j < zs.length := (List.getElem?_eq_some_iff.1 hz').1
      have := hcell j hj
      rw [addr_add0] at this
      rw [this]
      have e : zs.getD j 0 = z := by rw [List.getD_eq_getElem?_getD, hz']; rfl
      rw [e]
      have hwf := wf_u8 (hwz z (List.mem_of_getElem? hz'))
      rw [u8v, ← u8n_spec z hwf.1 (by omega)]
    · simp at hz'

/-- A slice of bytes that came in as an argument. -/
theorem open_bytesV {base : Nat} {t e : TypeId} {v : Value} {d : DataW H} {p : List MemPlace} (ht : P.underlying t = some (.slice e)) (he : P.underlying e = some (.int .u8)) (hc : P.cellsOf e = 1)
    (hv : Value.okWide P w .any base t v) (h : DataW.Trod enc P w 0 (fun _ => true) true t v d p) :
    ∃ A l c, v = .slice A (List.length l) c ∧ l.length ≤ c ∧ c ≤ maxLen ∧ Rd w A l := by
  obtain ⟨a0, len0, cap0, rfl⟩ := okWide_slice ht hv
  obtain ⟨fuel, hf⟩ := h
  obtain ⟨A, l, c, e1, h1, h2, h3⟩ := open_bytes ht he hc hf
  simp [Value.cells] at e1
  obtain ⟨rfl, rfl, rfl⟩ := e1
  exact ⟨_, l, _, rfl, h1, h2, h3⟩

/-- A slice of structs, each opened to its cells. -/
theorem open_structs {base : Nat} {t e : TypeId} {fs : Array Field} {C : Nat} {v : Value} {d : DataW H} {p : List MemPlace} (ht : P.underlying t = some (.slice e)) (he : P.underlying e = some (.struct fs)) (hC : P.cellsOf e = C) (hC0 : 0 < C)
    (hv : Value.okWide P w .any base t v) (h : DataW.Trod enc P w 0 (fun _ => true) true t v d p) :
    ∃ (A : Option Addr) (n c : Nat), v = .slice A n c ∧ n ≤ maxLen ∧ n ≤ c ∧ ∀ i, i < n → ∃ b off, A = some ⟨b, off, none⟩ ∧ b < w.heap.size ∧ ∃ (cs : List Value) (m : Nat), cs.length = C ∧
      (∀ j, j < C → w.cell? ⟨b, off + i * C + j, none⟩ = cs[j]?) ∧
      ∀ (k : Nat) (f : Field), fs[k]? = some f → ∃ y, DataW.trod enc P w 0 (fun _ => true) true m f.type ((cs.drop f.offset).take (P.cellsOf f.type)) = some y := by
  obtain ⟨a0, len0, cap0, rfl⟩ := okWide_slice ht hv
  obtain ⟨fuel, hf⟩ := h
  rcases Go.Deep.open_slice ht hf with ⟨hcs, _⟩ | ⟨a, len, cap, m, n, D, Pl, hcs, _, hl, hm, hmm, _, hi⟩
  · simp [Value.cells] at hcs
    obtain ⟨rfl, rfl, rfl⟩ := hcs
    exact ⟨none, 0, 0, rfl, by simp, by simp, fun i hi => absurd hi (by omega)⟩
  · simp [Value.cells] at hcs
    obtain ⟨rfl, rfl, rfl⟩ := hcs
    refine ⟨some a, len0, cap0, rfl, by omega, hl, fun i him => ?_⟩
    have hlm : len0 ≤ m := by rw [hmm]; simpa using hl
    obtain ⟨cs', hc, ht'⟩ := hi i (by omega)
    rw [hC] at hc
    obtain ⟨_, hcl, hat⟩ := World.cells?_some hc
    obtain ⟨xs, n', _, _, _, hxl, hg⟩ := DataW.trod_struct he ht'
    -- where the slice begins there is a cell
    obtain ⟨cs0, hc0, _⟩ := hi 0 (by omega)
    rw [hC] at hc0
    obtain ⟨_, hcl0, hat0⟩ := World.cells?_some hc0
    obtain ⟨b, off, spot⟩ := a
    have h00 := hat0 0 hC0
    rw [List.getElem?_eq_getElem (by omega)] at h00
    have hs : spot = none := by simpa [Addr.add] using World.cell?_spot h00
    subst hs
    have hb : b < w.heap.size := by have := World.block_lt_of_cell? _ _ h00; simpa [addr_add0] using this
    refine ⟨b, off, rfl, hb, cs', n', hcl, fun j hj => ?_, fun k f hk => ?_⟩
    · have := hat j hj
      rw [addr_add0, addr_add0] at this
      exact this
    · have hk' : k < fs.size := (Array.getElem?_eq_some_iff.1 hk).1
      exact ⟨xs[k]'(by omega), by rw [hg k f hk]; simp⟩
end
end Go.Proofs.Ytmmjihkcofgmmaa

/- How a slice of slices of bytes reads. -/
namespace Go.Proofs.Ytmmjihkcofgmmaa
open Go.ChangeShapes Go.WideShapes Go.ChangeAt Go.RowKit

theorem list_of {α : Type} (G : Nat → α → Prop) : ∀ n, (∀ i, i < n → ∃ x, G i x) → ∃ l : List α, l.length = n ∧ ∀ i x, l[i]? = some x → G i x
  | 0, _ => ⟨[], rfl, fun i x hx => by simp at hx⟩
  | n + 1, h => by
    obtain ⟨l, hl, hg⟩ := list_of G n (fun i hi => h i (by omega))
    obtain ⟨x, hx⟩ := h n (by omega)
    refine ⟨l ++ [x], by simp [hl], fun i y hy => ?_⟩
    by_cases hi : i < n
    · rw [List.getElem?_append_left (by omega)] at hy
      exact hg i y hy
    · rw [List.getElem?_append_right (by omega)] at hy
      have : i = n := by have := (List.getElem?_eq_some_iff.1 hy).1; simp at this; omega
      subst this
      simp [hl] at hy
      subst hy
      exact hx
section
variable {H : Type} {enc : TypeId × Value → H} {P : Program} {w : World}
theorem open_texts {base : Nat} {t e b : TypeId} {v : Value} {d : DataW H} {p : List MemPlace} (ht : P.underlying t = some (.slice e)) (he : P.underlying e = some (.slice b)) (hb : P.underlying b = some (.int .u8)) (hc1 : P.cellsOf b = 1) (hC : P.cellsOf e = 1)
    (hv : Value.okWide P w .any base t v) (h : DataW.Trod enc P w 0 (fun _ => true) true t v d p) :
    ∃ (A : Option Addr) (l : List (List UInt8)) (c : Nat), v = .slice A l.length c ∧ l.length ≤ maxLen ∧ l.length ≤ c ∧ TxIn w A l ∧ ∀ (i : Nat) (x : List UInt8), l[i]? = some x → x.length ≤ maxLen := by
  obtain ⟨a0, len0, cap0, rfl⟩ := okWide_slice ht hv
  obtain ⟨fuel, hf⟩ := h
  rcases Go.Deep.open_slice ht hf with ⟨hcs, _⟩ | ⟨a, len, cap, m, n, D, Pl, hcs, _, hl, hm, hmm, _, hi⟩
  · simp [Value.cells] at hcs
    obtain ⟨rfl, rfl, rfl⟩ := hcs
    exact ⟨none, [], 0, rfl, by simp, by simp, TxIn.nil _ _, fun i x hx => by simp at hx⟩
  · simp [Value.cells] at hcs
    obtain ⟨rfl, rfl, rfl⟩ := hcs
    have hlm : len0 ≤ m := by rw [hmm]; simpa using hl
    have key : ∀ i, i < len0 → ∃ (x : List UInt8) (bb off : Nat) (A : Option Addr) (c : Nat), a = ⟨bb, off, none⟩ ∧ bb < w.heap.size ∧ w.cell? ⟨bb, off + i, none⟩ = some (.slice A x.length c) ∧ Rd w A x ∧ x.length ≤ maxLen := fun i him => by
      obtain ⟨cs', hc, ht'⟩ := hi i (by omega)
      rw [hC] at hc
      obtain ⟨_, hcl, hat⟩ := World.cells?_some hc
      obtain ⟨A, x, c, hcs', hxc, hcm, hr⟩ := open_bytes he hb hc1 ht'
      subst hcs'
      obtain ⟨cs0, hc0, _⟩ := hi 0 (by omega)
      rw [hC] at hc0
      obtain ⟨_, hcl0, hat0⟩ := World.cells?_some hc0
      obtain ⟨bb, off, spot⟩ := a
      have h00 := hat0 0 (by omega)
      rw [List.getElem?_eq_getElem (by omega)] at h00
      have hs : spot = none := by simpa [Addr.add] using World.cell?_spot h00
      subst hs
      have hbw : bb < w.heap.size := by have := World.block_lt_of_cell? _ _ h00; simpa [addr_add0] using this
      have h1 := hat 0 (by omega)
      rw [addr_add0, addr_add0] at h1
      refine ⟨x, bb, off, A, c, rfl, hbw, ?_, hr, by omega⟩
      simpa using h1
    obtain ⟨l, hll, hg⟩ := list_of _ len0 key
    subst hll
    refine ⟨some a, l, cap0, rfl, by omega, hl, fun i x hx => ?_, fun i x hx => ?_⟩
    · obtain ⟨bb, off, A, c, h1, h2, h3, h4, _⟩ := hg i x hx
      exact ⟨bb, off, A, c, by rw [h1], h2, h3, h4⟩
    · obtain ⟨_, _, _, _, _, _, _, _, h5⟩ := hg i x hx
      exact h5
end
end Go.Proofs.Ytmmjihkcofgmmaa
