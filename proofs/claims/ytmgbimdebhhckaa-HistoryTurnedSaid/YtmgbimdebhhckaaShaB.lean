/- SHA-256: the schedule. -/
import Derived.Test.YtmgbimdebhhckaaShaA
import Derived.StillTailTactics
namespace Go.Proofs.Ytmgbimdebhhckaa
open Go.RowKit
set_option linter.unusedVariables false

def sg0 (x : UInt32) : UInt32 := rotr x 7 ^^^ rotr x 18 ^^^ (x >>> UInt32.ofNat 3)
def sg1 (y : UInt32) : UInt32 := rotr y 17 ^^^ rotr y 19 ^^^ (y >>> UInt32.ofNat 10)
def byteW (b : List UInt8) (i : Nat) : Nat := (b.getD i 0).toNat
/-- word i of a block's first sixteen -/
def wordB (b : List UInt8) (i : Nat) : UInt32 := UInt32.ofNat (byteW b (4 * i) * 16777216 + byteW b (4 * i + 1) * 65536 + byteW b (4 * i + 2) * 256 + byteW b (4 * i + 3))
def Wf (b : List UInt8) (n : Nat) : UInt32 :=
  if h : n < 16 then wordB b n else Wf b (n - 16) + sg0 (Wf b (n - 15)) + Wf b (n - 7) + sg1 (Wf b (n - 2))
termination_by n
def st (b : List UInt8) (i : Nat) : List UInt32 := (List.range 64).map fun j => if j < i then Wf b j else 0
theorem st_length (b : List UInt8) (i : Nat) : (st b i).length = 64 := by simp [st]
theorem st_get (b : List UInt8) (i j : Nat) (hj : j < i) (h64 : j < 64) : (st b i)[j]? = some (Wf b j) := by simp [st, h64, hj]
theorem st_set (b : List UInt8) (i : Nat) : (st b i).set i (Wf b i) = st b (i + 1) := by
  apply List.ext_getElem?
  intro j
  rw [List.getElem?_set]
  simp only [st, List.length_map, List.length_range, List.getElem?_map]
  by_cases hij : i = j
  · subst hij
    by_cases h : i < 64
    · simp [h]
    · simp [h]
  · simp only [hij, if_false]
    by_cases h : j < 64
    · have : (j < i) = (j < i + 1) := by simp; omega
      simp [h, this]
    · simp [h]
theorem st_zero (b : List UInt8) : st b 0 = List.replicate 64 0 := by
  apply List.ext_getElem?
  intro j
  rw [List.getElem?_replicate]
  simp only [st, List.getElem?_map, Nat.not_lt_zero, if_false]
  by_cases h : j < 64 <;> simp [h]

def z64 : List Value := List.replicate 64 (.int .u32 0)
theorem arr64_zero : (Try.prog.info? 77).map (·.zero) = some (some (.agg z64.toArray)) := by kernel_rfl
theorem arr64_size : (Try.prog.info? 77).map (·.size) = some 64 := by kernel_rfl

theorem word_join (b : List UInt8) (k y0 y1 y2 y3 : Nat) (h0 : byteW b (4 * k) = y0) (h1 : byteW b (4 * k + 1) = y1) (h2 : byteW b (4 * k + 2) = y2) (h3 : byteW b (4 * k + 3) = y3) :
    bits .or .u32 (bits .or .u32 (bits .or .u32 ((y0 : Int) * 16777216 % 4294967296) ((y1 : Int) * 65536 % 4294967296)) ((y2 : Int) * 256 % 4294967296)) (y3 : Int) = ((wordB b k).toNat : Int) := by
  have b0 : y0 < 256 := by rw [← h0]; exact UInt8.toNat_lt _
  have b1 : y1 < 256 := by rw [← h1]; exact UInt8.toNat_lt _
  have b2 : y2 < 256 := by rw [← h2]; exact UInt8.toNat_lt _
  have b3 : y3 < 256 := by rw [← h3]; exact UInt8.toNat_lt _
  have e : (wordB b k).toNat = y0 * 16777216 + y1 * 65536 + y2 * 256 + y3 := by
    unfold wordB
    rw [h0, h1, h2, h3, UInt32.toNat_ofNat']
    omega
  rw [e,
    show (y0 : Int) * 16777216 % 4294967296 = ((2 ^ 24 * y0 : Nat) : Int) by omega, show (y1 : Int) * 65536 % 4294967296 = ((2 ^ 16 * y1 : Nat) : Int) by omega, show (y2 : Int) * 256 % 4294967296 = ((2 ^ 8 * y2 : Nat) : Int) by omega,
    u32_or_nat _ _ (by omega) (by omega), ← Nat.two_pow_add_eq_or_of_lt (by omega : 2 ^ 16 * y1 < 2 ^ 24)]
  rw [show 2 ^ 24 * y0 + 2 ^ 16 * y1 = 2 ^ 16 * (256 * y0 + y1) by omega, u32_or_nat _ _ (by omega) (by omega), ← Nat.two_pow_add_eq_or_of_lt (by omega : 2 ^ 8 * y2 < 2 ^ 16)]
  rw [show 2 ^ 16 * (256 * y0 + y1) + 2 ^ 8 * y2 = 2 ^ 8 * (65536 * y0 + 256 * y1 + y2) by omega, u32_or_nat _ _ (by omega) (by omega), ← Nat.two_pow_add_eq_or_of_lt (by omega : y3 < 2 ^ 8)]
  omega
theorem w_div8 (x : UInt32) : (x.toNat : Int) / 8 = ((x >>> UInt32.ofNat 3).toNat : Int) := w_shr x 3 (by omega)
theorem w_div1024 (x : UInt32) : (x.toNat : Int) / 1024 = ((x >>> UInt32.ofNat 10).toNat : Int) := w_shr x 10 (by omega)
theorem word_step (b : List UInt8) (n : Nat) :
    (((Wf b n).toNat : Int) + bits .xor .u32 (bits .xor .u32 ((rotr (Wf b (n + 1)) 7).toNat : Int) ((rotr (Wf b (n + 1)) 18).toNat : Int)) (((Wf b (n + 1)).toNat : Int) / 8) + ((Wf b (n + 9)).toNat : Int) +
      bits .xor .u32 (bits .xor .u32 ((rotr (Wf b (n + 14)) 17).toNat : Int) ((rotr (Wf b (n + 14)) 19).toNat : Int)) (((Wf b (n + 14)).toNat : Int) / 1024)) % 4294967296 = ((Wf b (n + 16)).toNat : Int) := by
  have e : Wf b (n + 16) = Wf b n + sg0 (Wf b (n + 1)) + Wf b (n + 9) + sg1 (Wf b (n + 14)) := by
    rw [Wf, dif_neg (by omega), show n + 16 - 16 = n by omega, show n + 16 - 15 = n + 1 by omega, show n + 16 - 7 = n + 9 by omega, show n + 16 - 2 = n + 14 by omega]
  rw [w_div8, w_div1024, w_xor, w_xor, w_xor, w_xor, e, UInt32.toNat_add, UInt32.toNat_add, UInt32.toNat_add]
  unfold sg0 sg1
  omega
theorem sizeU8s : (Try.prog.info? 5).map (·.size) = some 1 := by kernel_rfl
def Agg (v : Value) (w : World) (e : Ending) (w' : World) : Prop := e = .returned v ∧ Fr [] w w'
set_option maxHeartbeats 1000000 in
theorem sched_calls (w : World) (A : Option Addr) (c : Nat) (b : List UInt8) (hb : b.length = 64) (hA : Rd w A b) (hc : 64 ≤ c) :
    Calls Try.prog 51 #[.slice A 64 c] w (Agg (.agg (u32s (st b 64)).toArray) w) := by
  have HA := Lib.hid hA
  have HB := Lib.hid hb
  clear hA hb
  go_enter Try.func51, Try.ntmps51
  go_wp2_with (refine wpList_alloc_agg rfl 77 rfl z64.toArray arr64_zero ?_)
  have hb0 := (Blk.new w 77 z64.toArray).alloc (.cells z64.toArray 77)
  have hb1 := Blk.new (w.alloc (.cells z64.toArray 77)) 77 z64.toArray
  rw [show (w.alloc (.cells z64.toArray 77)).heap.size = w.heap.size + 1 by simp, show z64.toArray = (u32s (st b 0)).toArray by rw [st_zero]; simp [z64, u32s, u32v]] at hb1
  have hf0 := ((Fr.refl [] w).alloc (.cells z64.toArray 77)).alloc (.cells z64.toArray 77)
  have HB0 := Lib.hid hb0; have HB1 := Lib.hid hb1; have HF0 := Lib.hid hf0
  clear hb0 hb1 hf0
  go_loopg [10] 16 (fun gg u wr => ∃ k : Nat, k ≤ 16 ∧ gg = 16 - k ∧ u = .int .i64 k ∧ Blk wr (w.heap.size + 1) 77 (u32s (st b k)).toArray ∧ Blk wr w.heap.size 77 z64.toArray ∧ Fr [] w wr)
  case atStart => exact ⟨0, by omega, by omega, rfl, by simpa [st_zero, u32s, u32v, z64] using HB1.out, HB0.out, HF0.out⟩
  case round =>
    obtain ⟨k, hk, rfl, rfl, h1, h0, hf⟩ := hrel
    have H1 := Lib.hid h1; have H0 := Lib.hid h0; have HF := Lib.hid hf
    have hz := h1.frozen k
    clear h1 h0 hf
    by_cases hlt : k < 16
    · obtain ⟨bb, off, hAe, hcell⟩ := HA.out.fr HF.out (by simp) (by have := HB.out; omega)
      have hbx : ∀ j, 4 * k + j < 64 → wr.cell? ⟨bb, off + (4 * k + j), none⟩ = some (.int .u8 (byteW b (4 * k + j) : Int)) := fun j hj => by
        have := HB.out
        rw [hcell (4 * k + j) b[4 * k + j] (by simp)]
        simp [u8v, byteW, List.getD, show 4 * k + j < b.length by omega]
      have x0 := hbx 0 (by omega)
      have x1 := hbx 1 (by omega)
      have x2 := hbx 2 (by omega)
      have x3 := hbx 3 (by omega)
      have hix : ∀ j, 4 * k + j < 64 → ∀ w, (Instr.indexAt 45 (.slice A 64 c) (.int .i64 ((4 * k + j : Nat) : Int))).run Try.prog w = .ok (.pointer (some ⟨bb, off + (4 * k + j), none⟩)) w := fun j hj w => by
        simpa using run_index_slice' (P := Try.prog) w Try.underlying45 sizeU8s (n := 64) (c := c) hAe hj
      have i0 := hix 0 (by omega)
      have i1 := hix 1 (by omega)
      have i2 := hix 2 (by omega)
      have i3 := hix 3 (by omega)
      simp only [Nat.add_zero, show ((4 * k : Nat) : Int) = 4 * (k : Int) by omega] at i0 x0
      simp only [show ((4 * k + 1 : Nat) : Int) = 4 * (k : Int) + 1 by omega] at i1
      simp only [show ((4 * k + 2 : Nat) : Int) = 4 * (k : Int) + 2 by omega] at i2
      simp only [show ((4 * k + 3 : Nat) : Int) = 4 * (k : Int) + 3 by omega] at i3
      obtain ⟨y0, hy0⟩ : ∃ y, byteW b (4 * k) = y := ⟨_, rfl⟩
      obtain ⟨y1, hy1⟩ : ∃ y, byteW b (4 * k + 1) = y := ⟨_, rfl⟩
      obtain ⟨y2, hy2⟩ : ∃ y, byteW b (4 * k + 2) = y := ⟨_, rfl⟩
      obtain ⟨y3, hy3⟩ : ∃ y, byteW b (4 * k + 3) = y := ⟨_, rfl⟩
      have hyb : y0 < 256 ∧ y1 < 256 ∧ y2 < 256 ∧ y3 < 256 := by
        rw [← hy0, ← hy1, ← hy2, ← hy3]; exact ⟨UInt8.toNat_lt _, UInt8.toNat_lt _, UInt8.toNat_lt _, UInt8.toNat_lt _⟩
      have hW := word_join b k y0 y1 y2 y3 hy0 hy1 hy2 hy3
      have HW := Lib.hid hW
      rw [hy0] at x0; rw [hy1] at x1; rw [hy2] at x2; rw [hy3] at x3
      have q0 : IntKind.u32.wrap (y0 : Int) = (y0 : Int) := by rw [IntKind.wrap_u32']; omega
      have q1 : IntKind.u32.wrap (y1 : Int) = (y1 : Int) := by rw [IntKind.wrap_u32']; omega
      have q2 : IntKind.u32.wrap (y2 : Int) = (y2 : Int) := by rw [IntKind.wrap_u32']; omega
      have q3 : IntKind.u32.wrap (y3 : Int) = (y3 : Int) := by rw [IntKind.wrap_u32']; omega
      have m0 : IntKind.i64.wrap (4 * (k : Int)) = 4 * (k : Int) := by rw [IntKind.wrap_i64]; omega
      have m1 : IntKind.i64.wrap (4 * (k : Int) + 1) = 4 * (k : Int) + 1 := by rw [IntKind.wrap_i64]; omega
      have m2 : IntKind.i64.wrap (4 * (k : Int) + 2) = 4 * (k : Int) + 2 := by rw [IntKind.wrap_i64]; omega
      have m3 : IntKind.i64.wrap (4 * (k : Int) + 3) = 4 * (k : Int) + 3 := by rw [IntKind.wrap_i64]; omega
      obtain ⟨old, hold⟩ : ∃ old, wr.cell? ⟨w.heap.size + 1, k, none⟩ = some old := by
        rw [H1.out.cell, List.getElem?_toArray]
        exact ⟨(u32s (st b k))[k]'(by simp [st_length]; omega), by simp⟩
      have ixk := fun w' => run_index_arr (P := Try.prog) (b := w.heap.size + 1) Try.underlying77 sizeW (show k < 64 by omega) (k : Int) rfl w'
      clear hy0 hy1 hy2 hy3 hW hyb
      have hkI : (0 : Int) ≤ (k : Int) ∧ (k : Int) < 16 := by omega
      clear hbx hix hcell hAe
      go_wp2
      go_still_tail 35, (by kernel_rfl)
      change wpList _ _ _ _ _ wr.drew
      go_wp2
      go_roundg (16 - (k + 1))
      case measure => omega
      case rel =>
        have hb2 := H1.out.set_ k (.int .u32 ((wordB b k).toNat : Int))
        have e : (u32s (st b k)).toArray.setIfInBounds k (.int .u32 ((wordB b k).toNat : Int)) = (u32s (st b (k + 1))).toArray := by
          rw [← st_set, show Wf b k = wordB b k by rw [Wf]; simp [hlt]]
          simp [u32s, List.map_set, u32v]
        rw [e] at hb2
        rw [HW.out]
        exact ⟨k + 1, by omega, rfl, by go_num, hb2.drew, (H0.out.far (p := ⟨w.heap.size + 1, k, none⟩) (by simp) _).drew, (HF.out.setCell (.inr (by simp)) _).drew⟩
    · obtain rfl : k = 16 := by omega
      clear hz
      go_wp2_with fail
      obtain ⟨wo, rfl⟩ : ∃ wo : World, wo = wr := ⟨_, rfl⟩
      go_loopg [5] 48 (fun gg u wr => ∃ n : Nat, n ≤ 48 ∧ gg = 48 - n ∧ u = .int .i64 ((n : Int) + 16) ∧ Blk wr (w.heap.size + 1) 77 (u32s (st b (n + 16))).toArray ∧ Blk wr w.heap.size 77 z64.toArray ∧ Fr [] w wr)
      case atStart => exact ⟨0, by omega, by omega, rfl, H1.out, H0.out, HF.out⟩
      case round =>
        obtain ⟨n, hn, rfl, rfl, h1, h0, hf⟩ := hrel
        have H1 := Lib.hid h1; have H0 := Lib.hid h0; have HF := Lib.hid hf
        have hz := h1.frozen (n + 16)
        by_cases hlt : n < 48
        · have hg : ∀ j, j < n + 16 → wr.cell? ⟨w.heap.size + 1, j, none⟩ = some (.int .u32 ((Wf b j).toNat : Int)) := fun j hj => by
            rw [h1.cell, List.getElem?_toArray, u32s_get, st_get b _ j hj (by omega)]; rfl
          have c0 := hg n (by omega)
          have c1 := hg (n + 1) (by omega)
          have c9 := hg (n + 9) (by omega)
          have c14 := hg (n + 14) (by omega)
          have ix := fun (j : Nat) (hj : j < 64) (i : Int) (hij : i = (j : Int)) w' => run_index_arr (P := Try.prog) (b := w.heap.size + 1) Try.underlying77 sizeW hj i hij w'
          have i0 := ix n (by omega) n rfl
          have i1 := ix (n + 1) (by omega) ((n : Int) + 1) (by omega)
          have i9 := ix (n + 9) (by omega) ((n : Int) + 9) (by omega)
          have i14 := ix (n + 14) (by omega) ((n : Int) + 14) (by omega)
          have i16 := ix (n + 16) (by omega) ((n : Int) + 16) (by omega)
          have hnI : (0 : Int) ≤ (n : Int) ∧ (n : Int) < 48 := by omega
          have hlI : (n : Int) + 16 < 64 := by omega
          have v1 : IntKind.i64.wrap ((n : Int) + 16 - 15) = (n : Int) + 1 := by rw [IntKind.wrap_i64]; omega
          have v14 : IntKind.i64.wrap ((n : Int) + 16 - 2) = (n : Int) + 14 := by rw [IntKind.wrap_i64]; omega
          have v0 : IntKind.i64.wrap ((n : Int) + 16 - 16) = (n : Int) := by rw [IntKind.wrap_i64]; omega
          have v00 : IntKind.i64.wrap (n : Int) = (n : Int) := by rw [IntKind.wrap_i64]; omega
          have v16 : IntKind.i64.wrap ((n : Int) + 16) = (n : Int) + 16 := by rw [IntKind.wrap_i64]; omega
          have v19 : IntKind.i64.wrap ((n : Int) + 9) = (n : Int) + 9 := by rw [IntKind.wrap_i64]; omega
          have v9 : IntKind.i64.wrap ((n : Int) + 16 - 7) = (n : Int) + 9 := by rw [IntKind.wrap_i64]; omega
          obtain ⟨old, hold⟩ : ∃ old, wr.cell? ⟨w.heap.size + 1, n + 16, none⟩ = some old := by
            rw [H1.out.cell, List.getElem?_toArray]
            exact ⟨(u32s (st b (n + 16)))[n + 16]'(by simp [st_length]; omega), by simp⟩
          have R7 := Lib.hid (fun w' => rot_calls w' (Wf b (n + 1)) 7 (by omega) (by omega) (-7) rfl)
          have R18 := Lib.hid (fun w' => rot_calls w' (Wf b (n + 1)) 18 (by omega) (by omega) (-18) rfl)
          have R17 := Lib.hid (fun w' => rot_calls w' (Wf b (n + 14)) 17 (by omega) (by omega) (-17) rfl)
          have R19 := Lib.hid (fun w' => rot_calls w' (Wf b (n + 14)) 19 (by omega) (by omega) (-19) rfl)
          clear h1 h0 hf hg ix
          go_wp2_with fail
          go_quiet (fail)
          go_wp2_with (first
            | (go_at_call 53; (with_reducible refine (R7.out _).mono ?_); rintro e w2 ⟨rfl, rfl⟩)
            | (go_at_call 53; (with_reducible refine (R18.out _).mono ?_); rintro e w2 ⟨rfl, rfl⟩)
            | (go_at_call 53; (with_reducible refine (R17.out _).mono ?_); rintro e w2 ⟨rfl, rfl⟩)
            | (go_at_call 53; (with_reducible refine (R19.out _).mono ?_); rintro e w2 ⟨rfl, rfl⟩))
          have c0' : (wr.drewN nq).cell? ⟨w.heap.size + 1, n, none⟩ = some (.int .u32 ((Wf b n).toNat : Int)) := c0
          have c9' : (wr.drewN nq).cell? ⟨w.heap.size + 1, n + 9, none⟩ = some (.int .u32 ((Wf b (n + 9)).toNat : Int)) := c9
          have hold' : (wr.drewN nq).cell? ⟨w.heap.size + 1, n + 16, none⟩ = some old := hold
          have hz' : (wr.drewN nq).frozen? ⟨w.heap.size + 1, n + 16, none⟩ = false := hz
          have H1' := Lib.hid (H1.out.drewN nq); have H0' := Lib.hid (H0.out.drewN nq); have HF' := Lib.hid (HF.out.drewN nq)
          have HS := Lib.hid (word_step b n)
          obtain ⟨w5, hw5⟩ : ∃ w5, wr.drewN nq = w5 := ⟨_, rfl⟩
          rw [hw5] at c0' c9' hold' hz' H1' H0' HF' ⊢
          clear c0 c1 c9 c14 hold hz
          go_still_tail 15, (by kernel_rfl)
          change wpList _ _ _ _ _ _
          go_wp2
          go_roundg (48 - (n + 1))
          case measure => omega
          case rel =>
            have e9 : ∀ v : Int, v = ((Wf b (n + 16)).toNat : Int) → (u32s (st b (n + 16))).toArray.setIfInBounds (n + 16) (.int .u32 v) = (u32s (st b (n + 1 + 16))).toArray := fun v hv => by
              rw [hv, show n + 1 + 16 = n + 16 + 1 by omega, ← st_set b (n + 16)]
              simp [u32s, List.map_set, u32v]
            refine ⟨n + 1, by omega, rfl, by go_num, ?_, (H0'.out.far (p := ⟨w.heap.size + 1, n + 16, none⟩) (by simp) _).drew, (HF'.out.setCell (.inr (by simp)) _).drew⟩
            have hb2 := (H1'.out.set_ (n + 16) (.int .u32 ((Wf b (n + 16)).toNat : Int))).drew
            rw [e9 _ rfl] at hb2
            rw [HS.out]
            exact hb2
        · obtain rfl : n = 48 := by omega
          have hU : (u32s (st b 64)).length = 64 := by simp [st_length]
          have HU := Lib.hid hU
          have HC := Lib.hid (show ∀ j v, (u32s (st b 64))[j]? = some v → wr.cell? ⟨w.heap.size + 1, 0 + j, none⟩ = some v from fun j v hv => by rw [H1.out.cell, List.getElem?_toArray, Nat.zero_add]; exact hv)
          have hz64 : z64.length = 64 := by simp [z64]
          have hspl : splice z64 0 (u32s (st b 64)) = u32s (st b 64) := by simp [splice, hU, hz64]
          have HSP := Lib.hid hspl
          clear hU hz64 hspl hz h1 h0 hf
          go_wp2_with (first
            | (refine wpList_load_agg rfl 77 (.tmp 3) rfl (w.heap.size + 1) 0 rfl (u32s (st b 64)) _ HC.out Try.underlying77 rfl (by rw [HU.out]; exact arr64_size) ?_)
            | (refine wpList_store_agg rfl 77 (.tmp 2) (.tmp 92) rfl w.heap.size 0 rfl (u32s (st b 64)) rfl z64 77 H0.out (by rw [HU.out]; decide) (u32s_one _) (by rw [HU.out]; exact arr64_size) ?_))
          have hb6 := H0.out.setRow_ (splice z64 0 (u32s (st b 64))).toArray
          rw [HSP.out] at hb6 ⊢
          refine bodyPost_ret (results_cell_row (p := 2) (ty := 77) rfl _ _ w.heap.size 77 (u32s (st b 64)).toArray (0, 0) _ rfl hb6 Try.underlying77 rfl (by rw [List.size_toArray, HU.out]; exact arr64_size)) rfl ?_
          exact ⟨rfl, HF.out.setRow (.inr (Nat.le_refl _)) _⟩
end Go.Proofs.Ytmgbimdebhhckaa
