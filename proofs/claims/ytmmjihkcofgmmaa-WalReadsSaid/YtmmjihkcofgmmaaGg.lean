/- The texts WalG WalH WalI WalJ WalK WalL WalM WalN of this seat, one behind another; what each says stands at its head. -/
import Derived.Test.YtmmjihkcofgmmaaGf

/- A log as memory holds it; Disk, Last, Free. -/
namespace Go.Proofs.Ytmmjihkcofgmmaa
open Go.RowKit
set_option linter.unusedVariables false

/-- a log's cells -/
def logC (p : Nat) (lv : Value) (k : Int) (last : List UInt8) (br : Bool) : List Value := .pointer (some ⟨p, 0, none⟩) :: lv :: .int .i64 k :: (u8s last ++ [.bool br])
theorem logC_last (p : Nat) (lv : Value) (k : Int) (last : List UInt8) (br : Bool) (j : Nat) (v : Value) (h : (u8s last)[j]? = some v) : (logC p lv k last br)[3 + j]? = some v := by
  have hj := (List.getElem?_eq_some_iff.1 h).1
  unfold logC
  rw [show 3 + j = j + 1 + 1 + 1 by omega, List.getElem?_cons_succ, List.getElem?_cons_succ, List.getElem?_cons_succ, List.getElem?_append_left hj]
  exact h
theorem logC_br (p : Nat) (lv : Value) (k : Int) (last : List UInt8) (br : Bool) (hl : last.length = 32) : (logC p lv k last br)[35]? = some (.bool br) := by
  unfold logC
  rw [show 35 = 32 + 1 + 1 + 1 by omega, List.getElem?_cons_succ, List.getElem?_cons_succ, List.getElem?_cons_succ, List.getElem?_append_right (by simp [hl])]
  simp [hl]
def LogB (w : World) (x p : Nat) (lv : Value) (k : Int) (last : List UInt8) (br : Bool) : Prop := Blk w x 65 (logC p lv k last br).toArray
theorem LogB.c0 {w : World} {x p : Nat} {lv : Value} {k : Int} {last : List UInt8} {br : Bool} (h : LogB w x p lv k last br) : w.cell? ⟨x, 0, none⟩ = some (.pointer (some ⟨p, 0, none⟩)) := by rw [Blk.cell h]; rfl
theorem LogB.c1 {w : World} {x p : Nat} {lv : Value} {k : Int} {last : List UInt8} {br : Bool} (h : LogB w x p lv k last br) : w.cell? ⟨x, 1, none⟩ = some lv := by rw [Blk.cell h]; rfl
theorem LogB.c2 {w : World} {x p : Nat} {lv : Value} {k : Int} {last : List UInt8} {br : Bool} (h : LogB w x p lv k last br) : w.cell? ⟨x, 2, none⟩ = some (.int .i64 k) := by rw [Blk.cell h]; rfl
theorem LogB.c3 {w : World} {x p : Nat} {lv : Value} {k : Int} {last : List UInt8} {br : Bool} (h : LogB w x p lv k last br) : ∀ j v, (u8s last)[j]? = some v → w.cell? ⟨x, 3 + j, none⟩ = some v := fun j v hv => by rw [Blk.cell h, List.getElem?_toArray]; exact logC_last _ _ _ _ _ j v hv
theorem LogB.c35 {w : World} {x p : Nat} {lv : Value} {k : Int} {last : List UInt8} {br : Bool} (h : LogB w x p lv k last br) (hl : last.length = 32) : w.cell? ⟨x, 35, none⟩ = some (.bool br) := by rw [Blk.cell h, List.getElem?_toArray]; exact logC_br _ _ _ _ _ hl
theorem LogB.fr {S : List Nat} {w w' : World} {x p : Nat} {lv : Value} {k : Int} {last : List UInt8} {br : Bool} (h : LogB w x p lv k last br) (hf : Fr S w w') (hx : x ∉ S) : LogB w' x p lv k last br := Blk.fr h hf hx
theorem disk_calls (w : World) (x p : Nat) (lv : Value) (k : Int) (last : List UInt8) (br : Bool) (h : LogB w x p lv k last br) : Calls Try.prog 25 #[.pointer (some ⟨x, 0, none⟩)] w (Same (.pointer (some ⟨p, 0, none⟩)) w) := by
  have h0 := h.c0
  clear h
  go_enter Try.func25, Try.ntmps25
  go_wp2
  go_ret
  exact ⟨rfl, rfl⟩
set_option maxHeartbeats 1000000 in
theorem last_calls (w : World) (x p : Nat) (lv : Value) (k : Int) (last : List UInt8) (br : Bool) (hl : last.length = 32) (h : LogB w x p lv k last br) : Calls Try.prog 18 #[.pointer (some ⟨x, 0, none⟩)] w (Agg (.agg (u8s last).toArray) w) := by
  obtain ⟨w1, hw1⟩ : ∃ W, w.alloc (.cells (zs 32).toArray 41) = W := ⟨_, rfl⟩
  have f1 : Fr [] w w1 := hw1 ▸ (Fr.refl [] w).alloc _
  have HO := Lib.hid (show Blk w1 w.heap.size 41 (zs 32).toArray from hw1 ▸ Blk.new w _ _)
  have HC := Lib.hid (h.fr f1 (by simp)).c3
  have HDF := Lib.hid (digF last hl); have F1 := Lib.hid f1
  clear h f1 hl
  go_enter Try.func18, Try.ntmps18
  go_wp2_with (first
    | (refine wpList_alloc_agg rfl 41 rfl (zs 32).toArray arr32_zero ?_; rw [hw1])
    | (refine wpList_wanted (v := .agg (u8s last).toArray) (by kernel_rfl) (exec_load_agg (ty := 41) (x := .tmp 5) rfl x 3 rfl (u8s last) _ HC.out Try.underlying41 rfl HDF.out.2.1) ?_)
    | (refine wpList_store_agg rfl 41 (.tmp 2) (.tmp 6) rfl w.heap.size 0 rfl (u8s last) rfl (zs 32) 41 HO.out HDF.out.1 (u8s_one _) HDF.out.2.1 ?_; rw [HDF.out.2.2]))
  refine bodyPost_ret (results_cell_row (p := 2) (ty := 41) rfl _ _ w.heap.size 41 (u8s last).toArray (0, 0) _ rfl (HO.out.setRow_ _) Try.underlying41 rfl (by rw [List.size_toArray]; exact HDF.out.2.1)) rfl ?_
  exact ⟨rfl, Fr.setRow F1.out (.inr (Nat.le_refl _)) _⟩
set_option maxHeartbeats 1000000 in
theorem free_calls (w : World) (x p g n cap : Nat) (s : Dk.DS) (lv : Value) (k : Nat) (last : List UInt8) (br : Bool) (h : LogB w x p lv (k : Int) last br) (hd : Dk.IsDisk w p g n cap s) (hn : n ≤ 4096) (hk : k ≤ n) : Calls Try.prog 23 #[.pointer (some ⟨x, 0, none⟩)] w (Agg (.int .i64 ((n : Int) - (k : Int))) w) := by
  have HC0 := Lib.hid (fun w9 (h9 : OldW w w9) => (h.fr h9 (by simp)).c0)
  have HC2 := Lib.hid (fun w9 (h9 : OldW w w9) => (h.fr h9 (by simp)).c2)
  have HLN := Lib.hid (Dk.len_calls w.drew p g n cap s (hd.fr (Fr.refl [] w).drew (by simp) (by simp)))
  have hI : (0 : Int) ≤ (k : Int) ∧ (k : Int) ≤ (n : Int) ∧ (n : Int) ≤ 4096 := by omega
  clear h hd hn hk
  go_enter Try.func23, Try.ntmps23
  go_wp2_with fail
  have hS0 : OldW w w.drew := (Fr.refl [] w).drew
  refine sqo_begin (w0 := w) (by kernel_rfl) ?_
  refine sqo_take (i := 0) (v := (.pointer (some ⟨x, 0, none⟩))) (d := 3) rfl (by kernel_rfl) (by kernel_rfl) (by kernel_rfl) (by kernel_rfl) (by kernel_rfl) (fun _ _ _ h => h) ?_ (by assumption) ?_
  · intro w9 h9; kernel_rfl
  try simp only [Act.put, List.setIfInBounds_toArray, List.set_cons_zero, List.set_cons_succ]
  refine sqo_take (i := 1) (v := (.pointer (some ⟨x, 0, none⟩))) (d := 4) rfl (by kernel_rfl) (by kernel_rfl) (by kernel_rfl) (by kernel_rfl) (by kernel_rfl) (fun _ _ _ h => h) ?_ (by assumption) ?_
  · intro w9 h9; kernel_rfl
  try simp only [Act.put, List.setIfInBounds_toArray, List.set_cons_zero, List.set_cons_succ]
  refine sqo_take (i := 2) (v := (.pointer (some ⟨x, 0, none⟩))) (d := 5) rfl (by kernel_rfl) (by kernel_rfl) (by kernel_rfl) (by kernel_rfl) (by kernel_rfl) (fun _ _ _ h => h) ?_ (by assumption) ?_
  · intro w9 h9; kernel_rfl
  try simp only [Act.put, List.setIfInBounds_toArray, List.set_cons_zero, List.set_cons_succ]
  refine sqo_take (i := 3) (v := (.pointer (some ⟨p, 0, none⟩))) (d := 6) rfl (by kernel_rfl) (by kernel_rfl) (by kernel_rfl) (by kernel_rfl) (by kernel_rfl) (fun _ _ _ h => h) ?_ (by assumption) ?_
  · intro w9 h9; exact exec_load_one rfl (by kernel_rfl) (.pointer (some ⟨p, 0, none⟩)) (.pointer 60) w9 (HC0.out w9 h9) Try.underlying28 rfl
  try simp only [Act.put, List.setIfInBounds_toArray, List.set_cons_zero, List.set_cons_succ]
  refine sqo_take (i := 5) (v := (.pointer (some ⟨x, 0, none⟩))) (d := 8) rfl (by kernel_rfl) (by kernel_rfl) (by kernel_rfl) (by kernel_rfl) (by kernel_rfl) (fun _ _ _ h => h) ?_ (by assumption) ?_
  · intro w9 h9; kernel_rfl
  try simp only [Act.put, List.setIfInBounds_toArray, List.set_cons_zero, List.set_cons_succ]
  refine sqo_take (i := 6) (v := (.pointer (some ⟨x, 0, none⟩))) (d := 9) rfl (by kernel_rfl) (by kernel_rfl) (by kernel_rfl) (by kernel_rfl) (by kernel_rfl) (fun _ _ _ h => h) ?_ (by assumption) ?_
  · intro w9 h9; kernel_rfl
  try simp only [Act.put, List.setIfInBounds_toArray, List.set_cons_zero, List.set_cons_succ]
  refine sqo_take (i := 7) (v := (.pointer (some ⟨x, 2, none⟩))) (d := 10) rfl (by kernel_rfl) (by kernel_rfl) (by kernel_rfl) (by kernel_rfl) (by kernel_rfl) (fun _ _ _ h => h) ?_ (by assumption) ?_
  · intro w9 h9; kernel_rfl
  try simp only [Act.put, List.setIfInBounds_toArray, List.set_cons_zero, List.set_cons_succ]
  refine sqo_take (i := 8) (v := (.int .i64 (k : Int))) (d := 11) rfl (by kernel_rfl) (by kernel_rfl) (by kernel_rfl) (by kernel_rfl) (by kernel_rfl) (fun _ _ _ h => h) ?_ (by assumption) ?_
  · intro w9 h9; exact exec_load_one rfl (by kernel_rfl) (.int .i64 (k : Int)) (.int .i64) w9 (HC2.out w9 h9) Try.underlying3 rfl
  try simp only [Act.put, List.setIfInBounds_toArray, List.set_cons_zero, List.set_cons_succ]
  refine sqo_only (i := 4) rfl (by kernel_rfl) (by kernel_rfl) ?_
  have hr4 := fun (a₀ : Act) (o₀ : Oper) (K₀ : Act → World → Prop) (Q₀ : Exit → Act → World → Prop) => @sq_call Try.prog Q₀ a₀ o₀ w.drew K₀ (fun e w' => e = .returned (.int .i64 (n : Int)) ∧ w.drew = w') 26 #[.pointer (some ⟨p, 0, none⟩)] 7
  refine hr4 _ _ _ _ ?_ ?_ ?_ ?_
  · kernel_rfl
  · kernel_rfl
  · exact HLN.out
  rintro e w3 ⟨rfl, rfl⟩
  refine ⟨_, rfl, hS0, ?_⟩
  clear hr4
  try simp only [Act.put, List.setIfInBounds_toArray, List.set_cons_zero, List.set_cons_succ]
  refine sqo_take (i := 9) (v := (.int .i64 ((n : Int) - (k : Int)))) (d := 12) rfl (by kernel_rfl) (by kernel_rfl) (by kernel_rfl) (by kernel_rfl) (by kernel_rfl) (fun _ _ _ h => h) ?_ (by assumption) ?_
  · intro w9 h9; go_simp; rw [IntKind.wrap_i64]; omega
  try simp only [Act.put, List.setIfInBounds_toArray, List.set_cons_zero, List.set_cons_succ]
  refine sqo_take (i := 10) (v := (.int .i64 ((n : Int) - (k : Int)))) (d := 2) rfl (by kernel_rfl) (by kernel_rfl) (by kernel_rfl) (by kernel_rfl) (by kernel_rfl) (fun _ _ _ h => h) ?_ (by assumption) ?_
  · intro w9 h9; kernel_rfl
  try simp only [Act.put, List.setIfInBounds_toArray, List.set_cons_zero, List.set_cons_succ]
  refine wpAnyH_done (by kernel_rfl) ?_ _
  go_wp2_with fail
  go_ret
  exact ⟨rfl, hS0⟩
end Go.Proofs.Ytmmjihkcofgmmaa

/- The log's records, told. -/
namespace Go.Proofs.Ytmmjihkcofgmmaa
open Go.RowKit
set_option linter.unusedVariables false

theorem own_ge {w : World} {base : Nat} {e : TypeId} {A : Option Addr} {n m c : Nat} {xs : List Value} (h : w.ownsRow base e 1 (.slice A n c) m xs) : ∀ b off, A = some ⟨b, off, none⟩ → base ≤ b := fun b off hA => by
  subst hA
  rcases h.2 with ⟨h1, _⟩ | ⟨g, cap, cur, h1, h2, _⟩
  · injection h1 with h1; cases h1
  · injection h1 with h1
    injection h1 with h1
    injection h1 with h1
    omega
set_option maxHeartbeats 1000000 in
set_option maxRecDepth 100000 in
theorem records_calls (w : World) (D : List Nat) (hD : ∀ y ∈ D, y < w.heap.size) (x p : Nat) (LA : Option Addr) (n c : Nat) (k : Int) (last : List UInt8) (br : Bool) (T : List (List UInt8)) (h : LogB w x p (.slice LA n c) k last br) (hn : T.length = n) (hT : TxIn w LA T) (hb : n ≤ 100000) (hs : ∀ t ∈ T, t.length ≤ 1000000) :
    Calls Try.prog 17 #[.pointer (some ⟨x, 0, none⟩)] w (fun e w' => ∃ v, e = .returned v ∧ TxRow w' v D w.heap.size T ∧ Fr [] w w') := by
  have h1 := h.c1
  have HT := Lib.hid hT; have HN := Lib.hid hn; have HS := Lib.hid hs; have HDD := Lib.hid hD; have HB := Lib.hid hb
  have hnI : (n : Int) ≤ 100000 := by omega
  clear hT hn h hs hD hb
  go_enter Try.func17, Try.ntmps17
  go_wp2_with fail
  go_loopg [3, 11] n (fun gg v u wr => ∃ (k : Nat) (lv : Value), k ≤ n ∧ gg = n - k ∧ u = .int .i64 (k : Int) ∧ lv = v ∧ TxRow wr lv D w.heap.size (T.take k) ∧ Fr [] w wr)
  case atStart => exact ⟨0, _, by omega, by omega, rfl, rfl, TxRow.nil _ _ _, Fr.refl _ _⟩
  case round =>
    obtain ⟨j, v, hj, rfl, rfl, rfl, ho, hf⟩ := hrel
    have HO := Lib.hid ho; have HF := Lib.hid hf
    clear ho hf h1
    by_cases hlt : j < n
    · obtain ⟨t, ht⟩ : ∃ t, T[j]? = some t := ⟨T[j]'(by have := HN.out; omega), by simp⟩
      obtain ⟨b, off, A, ct, hA, hbw, hc0, hr⟩ := HT.out j t ht
      subst hA
      have HST := Lib.hid (show T.take (j + 1) = T.take j ++ [t] by rw [List.take_add_one, ht]; rfl)
      have hts := HS.out t (List.mem_of_getElem? ht)
      obtain ⟨m, hm⟩ : ∃ m, t.length = m := ⟨_, rfl⟩
      have HM := Lib.hid hm
      rw [hm] at hts
      have HR := Lib.hid (hr.fr HF.out (by simp))
      rename World => wr
      have HV := Lib.hid HO.out.lt
      have hc : wr.cell? ⟨b, off + j, none⟩ = some (.slice A m ct) := by rw [HF.out.cell (p := ⟨b, off + j, none⟩) hbw (by simp), hc0, hm]
      have HC := Lib.hid (clone_n wr A m ct t hm HR.out (by omega))
      have hix := fun w' => ix_sl0 (P := Try.prog) (b := b) (off := off) (n := n) (c := c) Try.underlying25 size_sl hlt w'
      have hjI : (0 : Int) ≤ (j : Int) ∧ (j : Int) < (n : Int) := by omega
      have HTL := Lib.hid (show (T.take j).length ≤ 1000000 by rw [List.length_take]; have := HB.out; have := HN.out; omega)
      clear hm hr ht hbw hc0 hts
      go_wp2_with (first
        | (go_at_call 35; (refine HC.out.mono ?_); rintro e w4 h4; obtain ⟨A4, c4, rfl, ho4, f4⟩ := OwnBytes.toN HM.out h4; have HO4 := Lib.hid ho4; have F4 := Lib.hid f4; clear ho4 f4 h4)
        | (at_builtin; have f5 := (Fr.refl [] w4).alloc (.cells #[.slice A4 m c4] 26); refine wpList_appTx1 rfl (.tmp 15) (.tmp 18) 19 rfl rfl w.heap.size v D (T.take j) rfl (HO.out.frD (F4.out.trans f5)) t A4 m c4 w4.heap.size 1 HM.out rfl (Blk.new w4 _ _) ((OwnN.rdd HO4.out).fr f5 (by simp)) ?_ (own_le HO4.out) HTL.out ((HF.out.trans F4.out).trans f5).size ?_))
      · intro _ b off hA
        have h1 := own_ge HO4.out b off hA
        have h2 := HF.out.size
        exact ⟨fun hm => by have := HDD.out b hm; omega, fun e => by have := (HV.out b e.symm).2; omega⟩
      intro v6 w6 ho6 f6 _
      have HO6 := Lib.hid ho6
      have F6 := Lib.hid (((HF.out.trans F4.out).trans f5).trans' f6 (fun y hy => .inr (HV.out y (by simpa using hy)).1))
      clear ho6 f6 f5
      go_wp2_with fail
      go_roundg (n - (j + 1))
      case measure => omega
      case rel => exact ⟨j + 1, _, by omega, rfl, by go_num, rfl, by rw [HST.out]; exact HO6.out, F6.out⟩
    · obtain rfl : j = n := by omega
      have HE := Lib.hid (show T.take j = T from List.take_of_length_le (by have := HN.out; omega))
      go_wp2_with fail
      go_ret
      have ho := HO.out
      rw [HE.out] at ho
      exact ⟨_, rfl, ho, HF.out⟩
end Go.Proofs.Ytmmjihkcofgmmaa

/- slices.Equal of bytes. -/
namespace Go.Proofs.Ytmmjihkcofgmmaa
open Go.RowKit
set_option linter.unusedVariables false

set_option maxHeartbeats 1000000 in
theorem equal_calls (w : World) (A : Option Addr) (n c : Nat) (la : List UInt8) (hn : la.length = n) (hA : Rd w A la) (B : Option Addr) (m d : Nat) (lb : List UInt8) (hm : lb.length = m) (hB : Rd w B lb) (hb : n ≤ 100000000) (hb2 : m ≤ 100000000) :
    Calls Try.prog 49 #[.slice A n c, .slice B m d] w (Agg (.bool (la == lb)) w) := by
  by_cases hnm : n = m
  · subst hnm
    have HA := Lib.hid hA; have HB := Lib.hid hB; have HN := Lib.hid hn; have HM := Lib.hid hm
    have hI : (0 : Int) ≤ (n : Int) ∧ (n : Int) ≤ 100000000 := by omega
    clear hA hB hn hm hb hb2
    go_enter Try.func49, Try.ntmps49
    go_wp2_with fail
    go_loopg [13] n (fun gg u wr => ∃ k : Nat, k ≤ n ∧ gg = n - k ∧ u = .int .i64 (k : Int) ∧ la.take k = lb.take k ∧ Fr [] w wr)
    case atStart => exact ⟨0, by omega, by omega, rfl, by simp, Fr.refl _ _⟩
    case round =>
      obtain ⟨k, hk, rfl, rfl, ht, hf⟩ := hrel
      have HF := Lib.hid hf; have HT := Lib.hid ht
      clear hf ht
      by_cases hlt : k < n
      · obtain ⟨x, hx⟩ : ∃ x, la[k]? = some x := ⟨la[k]'(by have := HN.out; omega), by simp⟩
        obtain ⟨y, hy⟩ : ∃ y, lb[k]? = some y := ⟨lb[k]'(by have := HM.out; omega), by simp⟩
        obtain ⟨bA, oA, hA, hca⟩ := (HA.out.fr HF.out (by simp)) (by have := HN.out; omega)
        obtain ⟨bB, oB, hB, hcb⟩ := (HB.out.fr HF.out (by simp)) (by have := HM.out; omega)
        rename World => wr
        have HCA := Lib.hid (fun w9 (h9 : OldW wr w9) => (show w9.cell? ⟨bA, oA + k, none⟩ = some (.int .u8 (x.toNat : Int)) from by
          have h := hca k x hx
          rw [Fr.cell h9 (p := ⟨bA, oA + k, none⟩) (World.block_lt_of_cell? _ _ h) (by simp)]; exact h))
        have HCB := Lib.hid (fun w9 (h9 : OldW wr w9) => (show w9.cell? ⟨bB, oB + k, none⟩ = some (.int .u8 (y.toNat : Int)) from by
          have h := hcb k y hy
          rw [Fr.cell h9 (p := ⟨bB, oB + k, none⟩) (World.block_lt_of_cell? _ _ h) (by simp)]; exact h))
        subst hA hB
        have HIA := Lib.hid (fun w' => ix_sl0 (P := Try.prog) (b := bA) (off := oA) (n := n) (c := c) Try.underlying26 Dk.sizeU8 hlt w')
        have HIB := Lib.hid (fun w' => ix_sl0 (P := Try.prog) (b := bB) (off := oB) (n := n) (c := d) Try.underlying26 Dk.sizeU8 hlt w')
        have hkI : (0 : Int) ≤ (k : Int) ∧ (k : Int) < (n : Int) := by omega
        have HX := Lib.hid hx; have HY := Lib.hid hy
        clear hca hcb hx hy
        by_cases hxy : x = y
        · have HNE := Lib.hid (show (x.toNat : Int) = (y.toNat : Int) by rw [hxy])
          have HXY := Lib.hid hxy
          clear hxy
          go_wp2_with fail
          have hS0 : OldW wr wr.drew := (Fr.refl [] wr).drew
          refine sqo_begin (w0 := wr) (by kernel_rfl) ?_
          refine sqo_take (i := 0) (v := (.slice (some ⟨bA, oA, none⟩) n c)) (d := 16) rfl (by kernel_rfl) (by kernel_rfl) (by kernel_rfl) (by kernel_rfl) (by kernel_rfl) (fun _ _ _ h => h) ?_ (by assumption) ?_
          · intro w9 h9; kernel_rfl
          try simp only [Act.put, List.setIfInBounds_toArray, List.set_cons_zero, List.set_cons_succ]
          refine sqo_take (i := 1) (v := (.int .i64 (k : Int))) (d := 17) rfl (by kernel_rfl) (by kernel_rfl) (by kernel_rfl) (by kernel_rfl) (by kernel_rfl) (fun _ _ _ h => h) ?_ (by assumption) ?_
          · intro w9 h9; kernel_rfl
          try simp only [Act.put, List.setIfInBounds_toArray, List.set_cons_zero, List.set_cons_succ]
          refine sqo_take (i := 2) (v := (.pointer (some ⟨bA, oA + k, none⟩))) (d := 18) rfl (by kernel_rfl) (by kernel_rfl) (by kernel_rfl) (by kernel_rfl) (by kernel_rfl) (fun _ _ _ h => h) ?_ (by assumption) ?_
          · intro w9 h9; exact ex_ixa rfl (by kernel_rfl) (by kernel_rfl) (HIA.out w9)
          try simp only [Act.put, List.setIfInBounds_toArray, List.set_cons_zero, List.set_cons_succ]
          refine sqo_take (i := 3) (v := (.int .u8 (x.toNat : Int))) (d := 19) rfl (by kernel_rfl) (by kernel_rfl) (by kernel_rfl) (by kernel_rfl) (by kernel_rfl) (fun _ _ _ h => h) ?_ (by assumption) ?_
          · intro w9 h9; exact exec_load_one rfl (by kernel_rfl) (.int .u8 (x.toNat : Int)) (.int .u8) w9 (HCA.out w9 h9) Try.underlying5 rfl
          try simp only [Act.put, List.setIfInBounds_toArray, List.set_cons_zero, List.set_cons_succ]
          refine sqo_take (i := 4) (v := (.slice (some ⟨bB, oB, none⟩) n d)) (d := 20) rfl (by kernel_rfl) (by kernel_rfl) (by kernel_rfl) (by kernel_rfl) (by kernel_rfl) (fun _ _ _ h => h) ?_ (by assumption) ?_
          · intro w9 h9; kernel_rfl
          try simp only [Act.put, List.setIfInBounds_toArray, List.set_cons_zero, List.set_cons_succ]
          refine sqo_take (i := 5) (v := (.int .i64 (k : Int))) (d := 21) rfl (by kernel_rfl) (by kernel_rfl) (by kernel_rfl) (by kernel_rfl) (by kernel_rfl) (fun _ _ _ h => h) ?_ (by assumption) ?_
          · intro w9 h9; kernel_rfl
          try simp only [Act.put, List.setIfInBounds_toArray, List.set_cons_zero, List.set_cons_succ]
          refine sqo_take (i := 6) (v := (.pointer (some ⟨bB, oB + k, none⟩))) (d := 22) rfl (by kernel_rfl) (by kernel_rfl) (by kernel_rfl) (by kernel_rfl) (by kernel_rfl) (fun _ _ _ h => h) ?_ (by assumption) ?_
          · intro w9 h9; exact ex_ixa rfl (by kernel_rfl) (by kernel_rfl) (HIB.out w9)
          try simp only [Act.put, List.setIfInBounds_toArray, List.set_cons_zero, List.set_cons_succ]
          refine sqo_take (i := 7) (v := (.int .u8 (y.toNat : Int))) (d := 23) rfl (by kernel_rfl) (by kernel_rfl) (by kernel_rfl) (by kernel_rfl) (by kernel_rfl) (fun _ _ _ h => h) ?_ (by assumption) ?_
          · intro w9 h9; exact exec_load_one rfl (by kernel_rfl) (.int .u8 (y.toNat : Int)) (.int .u8) w9 (HCB.out w9 h9) Try.underlying5 rfl
          try simp only [Act.put, List.setIfInBounds_toArray, List.set_cons_zero, List.set_cons_succ]
          refine sqo_take (i := 8) (v := (.bool false)) (d := 24) rfl (by kernel_rfl) (by kernel_rfl) (by kernel_rfl) (by kernel_rfl) (by kernel_rfl) (fun _ _ _ h => h) ?_ (by assumption) ?_
          · intro w9 h9; go_simp; exact HNE.out
          try simp only [Act.put, List.setIfInBounds_toArray, List.set_cons_zero, List.set_cons_succ]
          refine wpAnyH_done (by kernel_rfl) ?_ _
          go_wp2_with fail
          go_roundg (n - (k + 1))
          case measure => omega
          case rel => exact ⟨k + 1, by omega, rfl, by go_num, by rw [List.take_add_one, List.take_add_one, HT.out, HX.out, HY.out, HXY.out], HF.out.trans hS0⟩
        · have HNE := Lib.hid (show ¬ (x.toNat : Int) = (y.toNat : Int) by
            intro h
            exact hxy (UInt8.toNat_inj.1 (by omega)))
          have HE := Lib.hid (show (la == lb) = false by
            rw [beq_eq_false_iff_ne]
            intro h
            have := HX.out
            rw [h, HY.out] at this
            injection this with this
            exact hxy this.symm)
          clear hxy
          go_wp2_with fail
          have hS0 : OldW wr wr.drew := (Fr.refl [] wr).drew
          refine sqo_begin (w0 := wr) (by kernel_rfl) ?_
          refine sqo_take (i := 0) (v := (.slice (some ⟨bA, oA, none⟩) n c)) (d := 16) rfl (by kernel_rfl) (by kernel_rfl) (by kernel_rfl) (by kernel_rfl) (by kernel_rfl) (fun _ _ _ h => h) ?_ (by assumption) ?_
          · intro w9 h9; kernel_rfl
          try simp only [Act.put, List.setIfInBounds_toArray, List.set_cons_zero, List.set_cons_succ]
          refine sqo_take (i := 1) (v := (.int .i64 (k : Int))) (d := 17) rfl (by kernel_rfl) (by kernel_rfl) (by kernel_rfl) (by kernel_rfl) (by kernel_rfl) (fun _ _ _ h => h) ?_ (by assumption) ?_
          · intro w9 h9; kernel_rfl
          try simp only [Act.put, List.setIfInBounds_toArray, List.set_cons_zero, List.set_cons_succ]
          refine sqo_take (i := 2) (v := (.pointer (some ⟨bA, oA + k, none⟩))) (d := 18) rfl (by kernel_rfl) (by kernel_rfl) (by kernel_rfl) (by kernel_rfl) (by kernel_rfl) (fun _ _ _ h => h) ?_ (by assumption) ?_
          · intro w9 h9; exact ex_ixa rfl (by kernel_rfl) (by kernel_rfl) (HIA.out w9)
          try simp only [Act.put, List.setIfInBounds_toArray, List.set_cons_zero, List.set_cons_succ]
          refine sqo_take (i := 3) (v := (.int .u8 (x.toNat : Int))) (d := 19) rfl (by kernel_rfl) (by kernel_rfl) (by kernel_rfl) (by kernel_rfl) (by kernel_rfl) (fun _ _ _ h => h) ?_ (by assumption) ?_
          · intro w9 h9; exact exec_load_one rfl (by kernel_rfl) (.int .u8 (x.toNat : Int)) (.int .u8) w9 (HCA.out w9 h9) Try.underlying5 rfl
          try simp only [Act.put, List.setIfInBounds_toArray, List.set_cons_zero, List.set_cons_succ]
          refine sqo_take (i := 4) (v := (.slice (some ⟨bB, oB, none⟩) n d)) (d := 20) rfl (by kernel_rfl) (by kernel_rfl) (by kernel_rfl) (by kernel_rfl) (by kernel_rfl) (fun _ _ _ h => h) ?_ (by assumption) ?_
          · intro w9 h9; kernel_rfl
          try simp only [Act.put, List.setIfInBounds_toArray, List.set_cons_zero, List.set_cons_succ]
          refine sqo_take (i := 5) (v := (.int .i64 (k : Int))) (d := 21) rfl (by kernel_rfl) (by kernel_rfl) (by kernel_rfl) (by kernel_rfl) (by kernel_rfl) (fun _ _ _ h => h) ?_ (by assumption) ?_
          · intro w9 h9; kernel_rfl
          try simp only [Act.put, List.setIfInBounds_toArray, List.set_cons_zero, List.set_cons_succ]
          refine sqo_take (i := 6) (v := (.pointer (some ⟨bB, oB + k, none⟩))) (d := 22) rfl (by kernel_rfl) (by kernel_rfl) (by kernel_rfl) (by kernel_rfl) (by kernel_rfl) (fun _ _ _ h => h) ?_ (by assumption) ?_
          · intro w9 h9; exact ex_ixa rfl (by kernel_rfl) (by kernel_rfl) (HIB.out w9)
          try simp only [Act.put, List.setIfInBounds_toArray, List.set_cons_zero, List.set_cons_succ]
          refine sqo_take (i := 7) (v := (.int .u8 (y.toNat : Int))) (d := 23) rfl (by kernel_rfl) (by kernel_rfl) (by kernel_rfl) (by kernel_rfl) (by kernel_rfl) (fun _ _ _ h => h) ?_ (by assumption) ?_
          · intro w9 h9; exact exec_load_one rfl (by kernel_rfl) (.int .u8 (y.toNat : Int)) (.int .u8) w9 (HCB.out w9 h9) Try.underlying5 rfl
          try simp only [Act.put, List.setIfInBounds_toArray, List.set_cons_zero, List.set_cons_succ]
          refine sqo_take (i := 8) (v := (.bool true)) (d := 24) rfl (by kernel_rfl) (by kernel_rfl) (by kernel_rfl) (by kernel_rfl) (by kernel_rfl) (fun _ _ _ h => h) ?_ (by assumption) ?_
          · intro w9 h9; go_simp; exact HNE.out
          try simp only [Act.put, List.setIfInBounds_toArray, List.set_cons_zero, List.set_cons_succ]
          refine wpAnyH_done (by kernel_rfl) ?_ _
          go_wp2_with fail
          go_ret
          rw [HE.out]
          exact ⟨rfl, HF.out.trans hS0⟩
      · obtain rfl : k = n := by omega
        have HE := Lib.hid (show (la == lb) = true by
          rw [beq_iff_eq]
          have := HT.out
          rwa [List.take_of_length_le (by have := HN.out; omega), List.take_of_length_le (by have := HM.out; omega)] at this)
        go_wp2_with fail
        go_ret
        rw [HE.out]
        exact ⟨rfl, HF.out⟩
  · have HE := Lib.hid (show (la == lb) = false by
      rw [beq_eq_false_iff_ne]
      intro h
      rw [h] at hn
      omega)
    have hI : (n : Int) ≠ (m : Int) := by omega
    have hq : ((n : Int) != (m : Int)) = true := by rw [bne_iff_ne]; exact hI
    clear hnm hA hB hn hm hb hb2
    go_enter Try.func49, Try.ntmps49
    go_wp2_with fail
    go_ret
    rw [HE.out]
    exact ⟨rfl, Fr.refl _ _⟩
end Go.Proofs.Ytmmjihkcofgmmaa

/- The document's Same: two lists of records. -/
namespace Go.Proofs.Ytmmjihkcofgmmaa
open Go.RowKit
set_option linter.unusedVariables false

theorem ex_neq_strW {P : Program} {a : Act} {o : Oper} {w : World} {x y : Operand} {t yt : TypeId} {la lb : List UInt8} {v : Bool} (ho : o.op = .binOp .neq t x y yt) (h1 : a.eval x = .string (str la)) (h2 : a.eval y = .string (str lb)) (hv : (la == lb) = !v) :
    (execOp a.eval o).run P w = .ok (.value (.bool v)) w := by
  unfold execOp
  simp [ho, h1, h2, eqGuard, binOp, Op.stringOp, str_toList, hv]
set_option maxHeartbeats 1000000 in
theorem same08_calls (w : World) (A : Option Addr) (n c : Nat) (la : List (List UInt8)) (hn : la.length = n) (hA : TxIn w A la) (B : Option Addr) (m d : Nat) (lb : List (List UInt8)) (hm : lb.length = m) (hB : TxIn w B lb) (hb : n ≤ 100000000) (hb2 : m ≤ 100000000) :
    Calls Try.prog 16 #[.slice A n c, .slice B m d] w (Agg (.bool (la == lb)) w) := by
  by_cases hnm : n = m
  · subst hnm
    have HA := Lib.hid hA; have HB := Lib.hid hB; have HN := Lib.hid hn; have HM := Lib.hid hm
    have hI : (0 : Int) ≤ (n : Int) ∧ (n : Int) ≤ 100000000 := by omega
    clear hA hB hn hm hb hb2
    go_enter Try.func16, Try.ntmps16
    go_wp2_with fail
    go_loopg [5] n (fun gg u wr => ∃ k : Nat, k ≤ n ∧ gg = n - k ∧ u = .int .i64 (k : Int) ∧ la.take k = lb.take k ∧ Fr [] w wr)
    case atStart => exact ⟨0, by omega, by omega, rfl, by simp, Fr.refl _ _⟩
    case round =>
      obtain ⟨k, hk, rfl, rfl, ht, hf⟩ := hrel
      have HF := Lib.hid hf; have HT := Lib.hid ht
      clear hf ht
      by_cases hlt : k < n
      · obtain ⟨x, hx⟩ : ∃ x, la[k]? = some x := ⟨la[k]'(by have := HN.out; omega), by simp⟩
        obtain ⟨y, hy⟩ : ∃ y, lb[k]? = some y := ⟨lb[k]'(by have := HM.out; omega), by simp⟩
        obtain ⟨bA, oA, A1, c1, hA, hbA, hca, hra⟩ := (HA.out.fr HF.out) k x hx
        obtain ⟨bB, oB, A2, c2, hB, hbB, hcb, hrb⟩ := (HB.out.fr HF.out) k y hy
        rename World => wr
        have HCA := Lib.hid (fun w9 (h9 : OldW wr w9) => (show w9.cell? ⟨bA, oA + k, none⟩ = some (.slice A1 x.length c1) from by rw [Fr.cell h9 (p := ⟨bA, oA + k, none⟩) hbA (by simp)]; exact hca))
        have HCB := Lib.hid (fun w9 (h9 : OldW wr w9) => (show w9.cell? ⟨bB, oB + k, none⟩ = some (.slice A2 y.length c2) from by rw [Fr.cell h9 (p := ⟨bB, oB + k, none⟩) hbB (by simp)]; exact hcb))
        have HRA := Lib.hid (fun w9 (h9 : OldW wr w9) => Rd.fr hra h9 (by simp)); have HRB := Lib.hid (fun w9 (h9 : OldW wr w9) => Rd.fr hrb h9 (by simp))
        subst hA hB
        have HIA := Lib.hid (fun w' => ix_sl0 (P := Try.prog) (b := bA) (off := oA) (n := n) (c := c) Try.underlying25 size_sl hlt w')
        have HIB := Lib.hid (fun w' => ix_sl0 (P := Try.prog) (b := bB) (off := oB) (n := n) (c := d) Try.underlying25 size_sl hlt w')
        have hkI : (0 : Int) ≤ (k : Int) ∧ (k : Int) < (n : Int) := by omega
        have HX := Lib.hid hx; have HY := Lib.hid hy
        clear hca hcb hx hy hra hrb hbA hbB
        by_cases hxy : x = y
        · have HNE := Lib.hid (show (x == y) = !false by rw [hxy]; simp)
          have HXY := Lib.hid hxy
          clear hxy
          go_wp2_with fail
          have hS0 : OldW wr wr.drew := (Fr.refl [] wr).drew
          refine sqo_begin (w0 := wr) (by kernel_rfl) ?_
          refine sqo_take (i := 0) (v := (.slice (some ⟨bA, oA, none⟩) n c)) (d := 17) rfl (by kernel_rfl) (by kernel_rfl) (by kernel_rfl) (by kernel_rfl) (by kernel_rfl) (fun _ _ _ h => h) ?_ (by assumption) ?_
          · intro w9 h9; kernel_rfl
          try simp only [Act.put, List.setIfInBounds_toArray, List.set_cons_zero, List.set_cons_succ]
          refine sqo_take (i := 1) (v := (.int .i64 (k : Int))) (d := 18) rfl (by kernel_rfl) (by kernel_rfl) (by kernel_rfl) (by kernel_rfl) (by kernel_rfl) (fun _ _ _ h => h) ?_ (by assumption) ?_
          · intro w9 h9; kernel_rfl
          try simp only [Act.put, List.setIfInBounds_toArray, List.set_cons_zero, List.set_cons_succ]
          refine sqo_take (i := 2) (v := (.pointer (some ⟨bA, oA + k, none⟩))) (d := 19) rfl (by kernel_rfl) (by kernel_rfl) (by kernel_rfl) (by kernel_rfl) (by kernel_rfl) (fun _ _ _ h => h) ?_ (by assumption) ?_
          · intro w9 h9; exact ex_ixa rfl (by kernel_rfl) (by kernel_rfl) (HIA.out w9)
          try simp only [Act.put, List.setIfInBounds_toArray, List.set_cons_zero, List.set_cons_succ]
          refine sqo_take (i := 3) (v := (.slice A1 x.length c1)) (d := 20) rfl (by kernel_rfl) (by kernel_rfl) (by kernel_rfl) (by kernel_rfl) (by kernel_rfl) (fun _ _ _ h => h) ?_ (by assumption) ?_
          · intro w9 h9; exact exec_load_one rfl (by kernel_rfl) (.slice A1 x.length c1) (.slice 5) w9 (HCA.out w9 h9) Try.underlying26 rfl
          try simp only [Act.put, List.setIfInBounds_toArray, List.set_cons_zero, List.set_cons_succ]
          refine sqo_take (i := 4) (v := (.string (str x))) (d := 21) rfl (by kernel_rfl) (by kernel_rfl) (by kernel_rfl) (by kernel_rfl) (by kernel_rfl) (fun _ _ _ h => h) ?_ (by assumption) ?_
          · intro w9 h9; exact exec_conv_str (c := c1) rfl Try.underlying26 Try.underlying5 Try.underlying9 (by kernel_rfl) (HRA.out w9 h9)
          try simp only [Act.put, List.setIfInBounds_toArray, List.set_cons_zero, List.set_cons_succ]
          refine sqo_take (i := 5) (v := (.slice (some ⟨bB, oB, none⟩) n d)) (d := 22) rfl (by kernel_rfl) (by kernel_rfl) (by kernel_rfl) (by kernel_rfl) (by kernel_rfl) (fun _ _ _ h => h) ?_ (by assumption) ?_
          · intro w9 h9; kernel_rfl
          try simp only [Act.put, List.setIfInBounds_toArray, List.set_cons_zero, List.set_cons_succ]
          refine sqo_take (i := 6) (v := (.int .i64 (k : Int))) (d := 23) rfl (by kernel_rfl) (by kernel_rfl) (by kernel_rfl) (by kernel_rfl) (by kernel_rfl) (fun _ _ _ h => h) ?_ (by assumption) ?_
          · intro w9 h9; kernel_rfl
          try simp only [Act.put, List.setIfInBounds_toArray, List.set_cons_zero, List.set_cons_succ]
          refine sqo_take (i := 7) (v := (.pointer (some ⟨bB, oB + k, none⟩))) (d := 24) rfl (by kernel_rfl) (by kernel_rfl) (by kernel_rfl) (by kernel_rfl) (by kernel_rfl) (fun _ _ _ h => h) ?_ (by assumption) ?_
          · intro w9 h9; exact ex_ixa rfl (by kernel_rfl) (by kernel_rfl) (HIB.out w9)
          try simp only [Act.put, List.setIfInBounds_toArray, List.set_cons_zero, List.set_cons_succ]
          refine sqo_take (i := 8) (v := (.slice A2 y.length c2)) (d := 25) rfl (by kernel_rfl) (by kernel_rfl) (by kernel_rfl) (by kernel_rfl) (by kernel_rfl) (fun _ _ _ h => h) ?_ (by assumption) ?_
          · intro w9 h9; exact exec_load_one rfl (by kernel_rfl) (.slice A2 y.length c2) (.slice 5) w9 (HCB.out w9 h9) Try.underlying26 rfl
          try simp only [Act.put, List.setIfInBounds_toArray, List.set_cons_zero, List.set_cons_succ]
          refine sqo_take (i := 9) (v := (.string (str y))) (d := 26) rfl (by kernel_rfl) (by kernel_rfl) (by kernel_rfl) (by kernel_rfl) (by kernel_rfl) (fun _ _ _ h => h) ?_ (by assumption) ?_
          · intro w9 h9; exact exec_conv_str (c := c2) rfl Try.underlying26 Try.underlying5 Try.underlying9 (by kernel_rfl) (HRB.out w9 h9)
          try simp only [Act.put, List.setIfInBounds_toArray, List.set_cons_zero, List.set_cons_succ]
          refine sqo_take (i := 10) (v := (.bool false)) (d := 27) rfl (by kernel_rfl) (by kernel_rfl) (by kernel_rfl) (by kernel_rfl) (by kernel_rfl) (fun _ _ _ h => h) ?_ (by assumption) ?_
          · intro w9 h9; exact ex_neq_strW rfl (by kernel_rfl) (by kernel_rfl) HNE.out
          try simp only [Act.put, List.setIfInBounds_toArray, List.set_cons_zero, List.set_cons_succ]
          refine wpAnyH_done (by kernel_rfl) ?_ _
          go_wp2_with fail
          go_roundg (n - (k + 1))
          case measure => omega
          case rel => exact ⟨k + 1, by omega, rfl, by go_num, by rw [List.take_add_one, List.take_add_one, HT.out, HX.out, HY.out, HXY.out], HF.out.trans hS0⟩
        · have HNE := Lib.hid (show (x == y) = !true by simpa using hxy)
          have HE := Lib.hid (show (la == lb) = false by
            rw [beq_eq_false_iff_ne]
            intro h
            have := HX.out
            rw [h, HY.out] at this
            injection this with this
            exact hxy this.symm)
          clear hxy
          go_wp2_with fail
          have hS0 : OldW wr wr.drew := (Fr.refl [] wr).drew
          refine sqo_begin (w0 := wr) (by kernel_rfl) ?_
          refine sqo_take (i := 0) (v := (.slice (some ⟨bA, oA, none⟩) n c)) (d := 17) rfl (by kernel_rfl) (by kernel_rfl) (by kernel_rfl) (by kernel_rfl) (by kernel_rfl) (fun _ _ _ h => h) ?_ (by assumption) ?_
          · intro w9 h9; kernel_rfl
          try simp only [Act.put, List.setIfInBounds_toArray, List.set_cons_zero, List.set_cons_succ]
          refine sqo_take (i := 1) (v := (.int .i64 (k : Int))) (d := 18) rfl (by kernel_rfl) (by kernel_rfl) (by kernel_rfl) (by kernel_rfl) (by kernel_rfl) (fun _ _ _ h => h) ?_ (by assumption) ?_
          · intro w9 h9; kernel_rfl
          try simp only [Act.put, List.setIfInBounds_toArray, List.set_cons_zero, List.set_cons_succ]
          refine sqo_take (i := 2) (v := (.pointer (some ⟨bA, oA + k, none⟩))) (d := 19) rfl (by kernel_rfl) (by kernel_rfl) (by kernel_rfl) (by kernel_rfl) (by kernel_rfl) (fun _ _ _ h => h) ?_ (by assumption) ?_
          · intro w9 h9; exact ex_ixa rfl (by kernel_rfl) (by kernel_rfl) (HIA.out w9)
          try simp only [Act.put, List.setIfInBounds_toArray, List.set_cons_zero, List.set_cons_succ]
          refine sqo_take (i := 3) (v := (.slice A1 x.length c1)) (d := 20) rfl (by kernel_rfl) (by kernel_rfl) (by kernel_rfl) (by kernel_rfl) (by kernel_rfl) (fun _ _ _ h => h) ?_ (by assumption) ?_
          · intro w9 h9; exact exec_load_one rfl (by kernel_rfl) (.slice A1 x.length c1) (.slice 5) w9 (HCA.out w9 h9) Try.underlying26 rfl
          try simp only [Act.put, List.setIfInBounds_toArray, List.set_cons_zero, List.set_cons_succ]
          refine sqo_take (i := 4) (v := (.string (str x))) (d := 21) rfl (by kernel_rfl) (by kernel_rfl) (by kernel_rfl) (by kernel_rfl) (by kernel_rfl) (fun _ _ _ h => h) ?_ (by assumption) ?_
          · intro w9 h9; exact exec_conv_str (c := c1) rfl Try.underlying26 Try.underlying5 Try.underlying9 (by kernel_rfl) (HRA.out w9 h9)
          try simp only [Act.put, List.setIfInBounds_toArray, List.set_cons_zero, List.set_cons_succ]
          refine sqo_take (i := 5) (v := (.slice (some ⟨bB, oB, none⟩) n d)) (d := 22) rfl (by kernel_rfl) (by kernel_rfl) (by kernel_rfl) (by kernel_rfl) (by kernel_rfl) (fun _ _ _ h => h) ?_ (by assumption) ?_
          · intro w9 h9; kernel_rfl
          try simp only [Act.put, List.setIfInBounds_toArray, List.set_cons_zero, List.set_cons_succ]
          refine sqo_take (i := 6) (v := (.int .i64 (k : Int))) (d := 23) rfl (by kernel_rfl) (by kernel_rfl) (by kernel_rfl) (by kernel_rfl) (by kernel_rfl) (fun _ _ _ h => h) ?_ (by assumption) ?_
          · intro w9 h9; kernel_rfl
          try simp only [Act.put, List.setIfInBounds_toArray, List.set_cons_zero, List.set_cons_succ]
          refine sqo_take (i := 7) (v := (.pointer (some ⟨bB, oB + k, none⟩))) (d := 24) rfl (by kernel_rfl) (by kernel_rfl) (by kernel_rfl) (by kernel_rfl) (by kernel_rfl) (fun _ _ _ h => h) ?_ (by assumption) ?_
          · intro w9 h9; exact ex_ixa rfl (by kernel_rfl) (by kernel_rfl) (HIB.out w9)
          try simp only [Act.put, List.setIfInBounds_toArray, List.set_cons_zero, List.set_cons_succ]
          refine sqo_take (i := 8) (v := (.slice A2 y.length c2)) (d := 25) rfl (by kernel_rfl) (by kernel_rfl) (by kernel_rfl) (by kernel_rfl) (by kernel_rfl) (fun _ _ _ h => h) ?_ (by assumption) ?_
          · intro w9 h9; exact exec_load_one rfl (by kernel_rfl) (.slice A2 y.length c2) (.slice 5) w9 (HCB.out w9 h9) Try.underlying26 rfl
          try simp only [Act.put, List.setIfInBounds_toArray, List.set_cons_zero, List.set_cons_succ]
          refine sqo_take (i := 9) (v := (.string (str y))) (d := 26) rfl (by kernel_rfl) (by kernel_rfl) (by kernel_rfl) (by kernel_rfl) (by kernel_rfl) (fun _ _ _ h => h) ?_ (by assumption) ?_
          · intro w9 h9; exact exec_conv_str (c := c2) rfl Try.underlying26 Try.underlying5 Try.underlying9 (by kernel_rfl) (HRB.out w9 h9)
          try simp only [Act.put, List.setIfInBounds_toArray, List.set_cons_zero, List.set_cons_succ]
          refine sqo_take (i := 10) (v := (.bool true)) (d := 27) rfl (by kernel_rfl) (by kernel_rfl) (by kernel_rfl) (by kernel_rfl) (by kernel_rfl) (fun _ _ _ h => h) ?_ (by assumption) ?_
          · intro w9 h9; exact ex_neq_strW rfl (by kernel_rfl) (by kernel_rfl) HNE.out
          try simp only [Act.put, List.setIfInBounds_toArray, List.set_cons_zero, List.set_cons_succ]
          refine wpAnyH_done (by kernel_rfl) ?_ _
          go_wp2_with fail
          go_ret
          rw [HE.out]
          exact ⟨rfl, HF.out.trans hS0⟩
      · obtain rfl : k = n := by omega
        have HE := Lib.hid (show (la == lb) = true by
          rw [beq_iff_eq]
          have := HT.out
          rwa [List.take_of_length_le (by have := HN.out; omega), List.take_of_length_le (by have := HM.out; omega)] at this)
        go_wp2_with fail
        go_ret
        rw [HE.out]
        exact ⟨rfl, HF.out⟩
  · have HE := Lib.hid (show (la == lb) = false by
      rw [beq_eq_false_iff_ne]
      intro h
      rw [h] at hn
      omega)
    have hI : (n : Int) ≠ (m : Int) := by omega
    have hq : ((n : Int) != (m : Int)) = true := by rw [bne_iff_ne]; exact hI
    clear hnm hA hB hn hm hb hb2
    go_enter Try.func16, Try.ntmps16
    go_wp2_with fail
    go_ret
    rw [HE.out]
    exact ⟨rfl, Fr.refl _ _⟩
end Go.Proofs.Ytmmjihkcofgmmaa

/- The document's Last. -/
namespace Go.Proofs.Ytmmjihkcofgmmaa
open Go.RowKit
set_option linter.unusedVariables false

/-- the sums along the records -/
def lastP (T : List (List UInt8)) : List UInt8 × Nat := T.foldl (fun p t => (sumR p.1 p.2 t, p.2 + 1)) (List.replicate 32 0, 0)
def lastR (T : List (List UInt8)) : List UInt8 := (lastP T).1
theorem lastP_snoc (T : List (List UInt8)) (t : List UInt8) : lastP (T ++ [t]) = (sumR (lastP T).1 (lastP T).2 t, (lastP T).2 + 1) := by
  unfold lastP
  rw [List.foldl_append]
  rfl
theorem lastP_gen (T : List (List UInt8)) : ∀ p : List UInt8 × Nat, p.1.length = 32 → (T.foldl (fun p t => (sumR p.1 p.2 t, p.2 + 1)) p).2 = p.2 + T.length ∧ (T.foldl (fun p t => (sumR p.1 p.2 t, p.2 + 1)) p).1.length = 32 := by
  induction T with
  | nil => exact fun p h => ⟨rfl, h⟩
  | cons t T ih =>
    intro p h
    obtain ⟨h1, h2⟩ := ih (sumR p.1 p.2 t, p.2 + 1) (sumR_length _ _ _)
    exact ⟨by rw [List.foldl_cons, h1, List.length_cons]; simp only []; omega, by rw [List.foldl_cons]; exact h2⟩
theorem lastP_len (T : List (List UInt8)) : (lastP T).2 = T.length := by
  have := (lastP_gen T (List.replicate 32 0, 0) (by simp)).1
  rw [Nat.zero_add] at this
  exact this
theorem lastR_snoc (T : List (List UInt8)) (t : List UInt8) : lastR (T ++ [t]) = sumR (lastR T) T.length t := by
  unfold lastR
  rw [lastP_snoc, lastP_len]
theorem lastR_length (T : List (List UInt8)) : (lastR T).length = 32 := (lastP_gen T (List.replicate 32 0, 0) (by simp)).2
theorem splice_whole (x y : List UInt8) (hx : x.length = 32) (hy : y.length = 32) : splice (u8s x) 0 (u8s y) = u8s y := by
  unfold splice
  rw [List.take_zero, List.nil_append, Nat.zero_add, List.drop_of_length_le (by simp [hx, hy]), List.append_nil]
set_option maxHeartbeats 1000000 in
set_option maxRecDepth 100000 in
theorem last08_calls (w : World) (TA : Option Addr) (n c : Nat) (T : List (List UInt8)) (hn : T.length = n) (hT : TxIn w TA T) (hb : n ≤ 100000000) (hs : ∀ t ∈ T, t.length ≤ 1000000) :
    Calls Try.prog 19 #[.slice TA n c] w (Agg (.agg (u8s (lastR T)).toArray) w) := by
  obtain ⟨w1, hw1⟩ : ∃ W, w.alloc (.cells (zs 32).toArray 41) = W := ⟨_, rfl⟩
  obtain ⟨w2, hw2⟩ : ∃ W, w1.alloc (.cells (zs 32).toArray 41) = W := ⟨_, rfl⟩
  have f1 : Fr [] w w1 := hw1 ▸ (Fr.refl [] w).alloc _
  have f2 : Fr [] w1 w2 := hw2 ▸ (Fr.refl [] w1).alloc _
  have hb1 : Blk w1 w.heap.size 41 (zs 32).toArray := hw1 ▸ Blk.new w _ _
  have HO2 := Lib.hid (hb1.fr f2 (by simp)); have HL2 := Lib.hid (show Blk w2 w1.heap.size 41 (zs 32).toArray from hw2 ▸ Blk.new w1 _ _)
  have HNE := Lib.hid (show w.heap.size ≠ w1.heap.size from Nat.ne_of_lt hb1.lt)
  have F2 := Lib.hid (f1.trans f2); have HSZ := Lib.hid f1.size
  have HT := Lib.hid hT; have HN := Lib.hid hn; have HS := Lib.hid hs
  have hnI : (n : Int) ≤ 100000000 := by omega
  have HBN := Lib.hid hb
  clear f1 f2 hb1 hT hn hs hb
  go_enter Try.func19, Try.ntmps19
  go_wp2_with (first
    | (refine wpList_alloc_agg rfl 41 rfl (zs 32).toArray arr32_zero ?_; first | rw [hw1] | rw [hw2]))
  go_loopg [4] n (fun gg u wr => ∃ k : Nat, k ≤ n ∧ gg = n - k ∧ u = .int .i64 (k : Int) ∧ Blk wr w.heap.size 41 (zs 32).toArray ∧ Blk wr w1.heap.size 41 (u8s (lastR (T.take k))).toArray ∧ Fr [] w wr)
  case atStart => exact ⟨0, by omega, by omega, rfl, HO2.out, HL2.out, F2.out⟩
  case round =>
    obtain ⟨k, hk, rfl, rfl, ho, hl, hf⟩ := hrel
    have HO := Lib.hid ho; have HL := Lib.hid hl; have HF := Lib.hid hf
    clear ho hl hf
    by_cases hlt : k < n
    · obtain ⟨t, ht⟩ : ∃ t, T[k]? = some t := ⟨T[k]'(by have := HN.out; omega), by simp⟩
      obtain ⟨bA, oA, A1, c1, hA, hbA, hca, hra⟩ := HT.out k t ht
      have HST := Lib.hid (show lastR (T.take (k + 1)) = sumR (lastR (T.take k)) k t by rw [List.take_add_one, ht]; simp only [Option.toList_some]; rw [lastR_snoc, List.length_take, Nat.min_eq_left (by have := HN.out; omega)])
      have hlp := lastR_length (T.take k)
      obtain ⟨lp, hlpe⟩ : ∃ x, lastR (T.take k) = x := ⟨_, rfl⟩
      rw [hlpe] at hlp HL HST
      have hts := HS.out t (List.mem_of_getElem? ht)
      obtain ⟨m, hm⟩ : ∃ m, t.length = m := ⟨_, rfl⟩
      rw [hm] at hts hca
      rename World => wr
      have HCA := Lib.hid (fun w9 (h9 : OldW w w9) => (show w9.cell? ⟨bA, oA + k, none⟩ = some (.slice A1 m c1) from by rw [Fr.cell h9 (p := ⟨bA, oA + k, none⟩) hbA (by simp)]; exact hca))
      have HSM := Lib.hid (fun W (h9 : OldW w W) => rsum08_calls W lp hlp k (by have := HBN.out; omega) A1 m c1 t hm (Rd.fr hra h9 (by simp)) (by omega))
      subst hA
      have HIA := Lib.hid (fun w' => ix_sl0 (P := Try.prog) (b := bA) (off := oA) (n := n) (c := c) Try.underlying25 size_sl hlt w')
      have HD1 := Lib.hid (digF lp hlp); have HD2 := Lib.hid (digF (sumR lp k t) (sumR_length _ _ _))
      have HSP := Lib.hid (splice_whole lp (sumR lp k t) hlp (sumR_length _ _ _))
      have HFT := Lib.hid (show 0 + (u8s (sumR lp k t)).length ≤ (u8s lp).length by simp [hlp, sumR_length])
      have hkI : (0 : Int) ≤ (k : Int) ∧ (k : Int) < (n : Int) := by omega
      clear hca ht hra hbA hlp hlpe hts hm
      go_wp2_with fail
      have hS0 : OldW w wr.drew := HF.out.trans (Fr.refl [] wr).drew
      have HL0 := Lib.hid (HL.out.drew)
      refine sqo_begin (w0 := w) (by kernel_rfl) ?_
      refine sqo_take (i := 1) (v := (.int .i64 (k : Int))) (d := 12) rfl (by kernel_rfl) (by kernel_rfl) (by kernel_rfl) (by kernel_rfl) (by kernel_rfl) (fun _ _ _ h => h) ?_ (by assumption) ?_
      · intro w9 h9; kernel_rfl
      try simp only [Act.put, List.setIfInBounds_toArray, List.set_cons_zero, List.set_cons_succ]
      refine sqo_take (i := 2) (v := (.slice (some ⟨bA, oA, none⟩) n c)) (d := 13) rfl (by kernel_rfl) (by kernel_rfl) (by kernel_rfl) (by kernel_rfl) (by kernel_rfl) (fun _ _ _ h => h) ?_ (by assumption) ?_
      · intro w9 h9; kernel_rfl
      try simp only [Act.put, List.setIfInBounds_toArray, List.set_cons_zero, List.set_cons_succ]
      refine sqo_take (i := 3) (v := (.int .i64 (k : Int))) (d := 14) rfl (by kernel_rfl) (by kernel_rfl) (by kernel_rfl) (by kernel_rfl) (by kernel_rfl) (fun _ _ _ h => h) ?_ (by assumption) ?_
      · intro w9 h9; kernel_rfl
      try simp only [Act.put, List.setIfInBounds_toArray, List.set_cons_zero, List.set_cons_succ]
      refine sqo_take (i := 4) (v := (.pointer (some ⟨bA, oA + k, none⟩))) (d := 15) rfl (by kernel_rfl) (by kernel_rfl) (by kernel_rfl) (by kernel_rfl) (by kernel_rfl) (fun _ _ _ h => h) ?_ (by assumption) ?_
      · intro w9 h9; exact ex_ixa rfl (by kernel_rfl) (by kernel_rfl) (HIA.out w9)
      try simp only [Act.put, List.setIfInBounds_toArray, List.set_cons_zero, List.set_cons_succ]
      refine sqo_take (i := 5) (v := (.slice A1 m c1)) (d := 16) rfl (by kernel_rfl) (by kernel_rfl) (by kernel_rfl) (by kernel_rfl) (by kernel_rfl) (fun _ _ _ h => h) ?_ (by assumption) ?_
      · intro w9 h9; exact exec_load_one rfl (by kernel_rfl) (.slice A1 m c1) (.slice 5) w9 (HCA.out w9 h9) Try.underlying26 rfl
      try simp only [Act.put, List.setIfInBounds_toArray, List.set_cons_zero, List.set_cons_succ]
      refine sqo_only (i := 0) rfl (by kernel_rfl) (by kernel_rfl) ?_
      have hr0 := fun (a₀ : Act) (o₀ : Oper) (K₀ : Act → World → Prop) (Q₀ : Exit → Act → World → Prop) => @sq_val Try.prog Q₀ a₀ o₀ wr.drew K₀ (.agg (u8s lp).toArray) wr.drew 11
      refine hr0 _ _ _ _ ?_ ?_ ?_
      · kernel_rfl
      · exact exec_load_agg rfl w1.heap.size 0 (by kernel_rfl) (u8s lp) _ (rd_row HL0.out) Try.underlying41 rfl HD1.out.2.1
      clear hr0
      refine ⟨hS0, ?_⟩
      try simp only [Act.put, List.setIfInBounds_toArray, List.set_cons_zero, List.set_cons_succ]
      refine sqo_only (i := 6) rfl (by kernel_rfl) (by kernel_rfl) ?_
      have hr6 := fun (a₀ : Act) (o₀ : Oper) (K₀ : Act → World → Prop) (Q₀ : Exit → Act → World → Prop) => @sq_call Try.prog Q₀ a₀ o₀ wr.drew K₀ (Agg (.agg (u8s (sumR lp k t)).toArray) wr.drew) 31 #[.agg (u8s lp).toArray, .int .i64 (k : Int), .slice A1 m c1] 17
      refine hr6 _ _ _ _ ?_ ?_ ?_ ?_
      · kernel_rfl
      · kernel_rfl
      · exact (HSM.out wr.drew hS0)
      rintro e w5 ⟨rfl, f9⟩
      have hS1 := OldW.step hS0 f9
      have HL1 := Lib.hid (HL0.out.fr f9 (by simp))
      have HO1 := Lib.hid ((HO.out.drew).fr f9 (by simp))
      clear f9
      refine ⟨_, rfl, hS1, ?_⟩
      clear hr6
      try simp only [Act.put, List.setIfInBounds_toArray, List.set_cons_zero, List.set_cons_succ]
      refine sqo_only (i := 7) rfl (by kernel_rfl) (by kernel_rfl) ?_
      have hr7 := fun (a₀ : Act) (o₀ : Oper) (K₀ : Act → World → Prop) (Q₀ : Exit → Act → World → Prop) => @sq_store Try.prog Q₀ a₀ o₀ w5 K₀ 41 (.tmp 3) (.tmp 17) w1.heap.size 0 (u8s (sumR lp k t)) (u8s lp) 41
      refine hr7 _ _ _ _ ?_ ?_ ?_ ?_ ?_ ?_ ?_ ?_ ?_
      · kernel_rfl
      · kernel_rfl
      · kernel_rfl
      · kernel_rfl
      · exact HL1.out
      · exact HFT.out
      · exact u8s_one _
      · exact HD2.out.2.1
      clear hr7
      rw [HSP.out]
      refine ⟨(Fr.setRow hS1 (.inr HSZ.out) _), ?_⟩
      try simp only [Act.put, List.setIfInBounds_toArray, List.set_cons_zero, List.set_cons_succ]
      refine wpAnyH_done (by kernel_rfl) ?_ _
      go_wp2_with fail
      go_roundg (n - (k + 1))
      case measure => omega
      case rel => exact ⟨k + 1, by omega, rfl, by go_num, HO1.out.setRow_far HNE.out _, by rw [HST.out]; exact HL1.out.setRow_ _, Fr.setRow hS1 (.inr HSZ.out) _⟩
    · obtain rfl : k = n := by omega
      have HE := Lib.hid (show T.take k = T from List.take_of_length_le (by have := HN.out; omega))
      have hl := HL.out
      rw [HE.out] at hl
      have HL := Lib.hid hl
      have HD1 := Lib.hid (digF (lastR T) (lastR_length T))
      rename World => wr
      clear hl
      go_wp2_with (first
        | (refine wpList_wanted (v := .agg (u8s (lastR T)).toArray) (by kernel_rfl) (exec_load_agg (ty := 41) (x := .tmp 3) rfl w1.heap.size 0 rfl (u8s (lastR T)) _ (rd_row HL.out) Try.underlying41 rfl HD1.out.2.1) ?_)
        | (refine wpList_store_agg rfl 41 (.tmp 2) (.tmp 18) rfl w.heap.size 0 rfl (u8s (lastR T)) rfl (zs 32) 41 HO.out HD1.out.1 (u8s_one _) HD1.out.2.1 ?_; rw [HD1.out.2.2]))
      refine bodyPost_ret (results_cell_row (p := 2) (ty := 41) rfl _ _ w.heap.size 41 (u8s (lastR T)).toArray (0, 0) _ rfl (HO.out.setRow_ _) Try.underlying41 rfl (by rw [List.size_toArray]; exact HD1.out.2.1)) rfl ?_
      exact ⟨rfl, Fr.setRow HF.out (.inr (Nat.le_refl _)) _⟩
end Go.Proofs.Ytmmjihkcofgmmaa

/- The laws' steps: are they great? -/
namespace Go.Proofs.Ytmmjihkcofgmmaa
open Go.RowKit
set_option linter.unusedVariables false

/-- a step -/
structure St where
  B : List UInt8
  dies : Bool
  k : Int
  torn : Int
/-- steps, as a slice has them -/
def StIn (w : World) (A : Option Addr) (l : List St) : Prop :=
  ∀ i s, l[i]? = some s → ∃ b off A' c, A = some ⟨b, off, none⟩ ∧ b < w.heap.size ∧ w.cell? ⟨b, off + i * 4, none⟩ = some (.slice A' s.B.length c) ∧ s.B.length ≤ c ∧ Rd w A' s.B ∧
    w.cell? ⟨b, off + i * 4 + 1, none⟩ = some (.bool s.dies) ∧ w.cell? ⟨b, off + i * 4 + 2, none⟩ = some (.int .i64 s.k) ∧ w.cell? ⟨b, off + i * 4 + 3, none⟩ = some (.int .i64 s.torn)
def greatB (l : List St) : Bool := (l.take 60).any fun s => decide (1000 < s.B.length)
theorem greatB_true {l : List St} {i : Nat} {s : St} (h : l[i]? = some s) (hi : i < 60) (hs : 1000 < s.B.length) : greatB l = true := by
  unfold greatB
  rw [List.any_eq_true]
  refine ⟨s, List.mem_of_getElem? (i := i) ?_, by simpa using hs⟩
  rw [List.getElem?_take_of_lt hi]
  exact h
theorem greatB_false {l : List St} (h : ∀ i s, l[i]? = some s → i < 60 → s.B.length ≤ 1000) : greatB l = false := by
  unfold greatB
  rw [List.any_eq_false]
  intro s hs
  obtain ⟨i, hi⟩ := List.getElem?_of_mem hs
  have h60 : i < 60 := by
    have := (List.getElem?_eq_some_iff.1 hi).1
    rw [List.length_take] at this
    omega
  rw [List.getElem?_take_of_lt h60] at hi
  have := h i s hi h60
  simp only [decide_eq_true_eq]
  omega
theorem size_step : (Try.prog.info? 49).map (·.size) = some 4 := by kernel_rfl
set_option maxHeartbeats 1000000 in
theorem great_calls (w : World) (A : Option Addr) (n c : Nat) (l : List St) (hn : l.length = n) (hL : StIn w A l) (hmax : n ≤ maxLen) :
    Calls Try.prog 20 #[.slice A n c] w (Agg (.bool (greatB l)) w) := by
  unfold maxLen at hmax
  have HL := Lib.hid hL; have HN := Lib.hid hn
  have hnI : (0 : Int) ≤ (n : Int) := by omega
  clear hL hn
  go_enter Try.func20, Try.ntmps20
  go_wp2_with fail
  go_loopg [3] 60 (fun gg u wr => ∃ k : Nat, k ≤ n ∧ k ≤ 60 ∧ gg = 60 - k ∧ u = .int .i64 (k : Int) ∧ (∀ i s, l[i]? = some s → i < k → s.B.length ≤ 1000) ∧ w = wr)
  case atStart => exact ⟨0, by omega, by omega, by omega, rfl, fun i s _ h => by omega, rfl⟩
  case round =>
    obtain ⟨k, hk, hk6, rfl, rfl, hs, rfl⟩ := hrel
    have HS := Lib.hid hs
    clear hs
    have hkI : (0 : Int) ≤ (k : Int) := by omega
    by_cases hlt : k < n
    · by_cases h60 : k < 60
      · obtain ⟨s, hs⟩ : ∃ s, l[k]? = some s := ⟨l[k]'(by have := HN.out; omega), by simp⟩
        obtain ⟨b, off, A', c', hA, hb, hc, _, _, _, _, _⟩ := HL.out k s hs
        subst hA
        obtain ⟨m, hm⟩ : ∃ m, s.B.length = m := ⟨_, rfl⟩
        rw [hm] at hc
        have hix := fun w' => run_index_slice' (P := Try.prog) (t := 45) (size := 4) w' Try.underlying45 size_step (A := some ⟨b, off, none⟩) (n := n) (c := c) (j := k) rfl hlt
        have hI : (k : Int) < (n : Int) ∧ (k : Int) < 60 ∧ (0 : Int) ≤ (m : Int) := by omega
        have HM := Lib.hid hm; have HSS := Lib.hid hs
        clear hs hm
        by_cases hg : 1000 < m
        · have hgI : 1000 < (m : Int) := by omega
          have HE := Lib.hid (greatB_true HSS.out h60 (by have := HM.out; omega))
          go_wp2_with fail
          go_ret
          rw [HE.out]
          exact ⟨rfl, Fr.refl _ _⟩
        · have hgI : (m : Int) ≤ 1000 := by omega
          go_wp2_with fail
          go_roundg (60 - (k + 1))
          case measure => omega
          case rel => exact ⟨k + 1, by omega, by omega, rfl, by go_num, fun i s' hs' hi => by
            rcases Nat.lt_or_ge i k with h | h
            · exact HS.out i s' hs' h
            · obtain rfl : i = k := by omega
              rw [HSS.out] at hs'
              injection hs' with hs'
              subst hs'
              have := HM.out
              omega, rfl⟩
      · have HE := Lib.hid (greatB_false (l := l) (fun i s hs hi => HS.out i s hs (by omega)))
        have hI : (k : Int) < (n : Int) ∧ 60 ≤ (k : Int) := by omega
        go_wp2_with fail
        go_ret
        rw [HE.out]
        exact ⟨rfl, Fr.refl _ _⟩
    · have HE := Lib.hid (greatB_false (l := l) (fun i s hs hi => HS.out i s hs (by have := (List.getElem?_eq_some_iff.1 hs).1; have := HN.out; omega)))
      have hI : (n : Int) ≤ (k : Int) := by omega
      go_wp2_with fail
      go_ret
      rw [HE.out]
      exact ⟨rfl, Fr.refl _ _⟩
end Go.Proofs.Ytmmjihkcofgmmaa

/- The log's bytes, in plain Lean. -/
namespace Go.Proofs.Ytmmjihkcofgmmaa
open Go.RowKit
set_option linter.unusedVariables false

/-- zeros up to a whole sector -/
def pad64 (l : List UInt8) : List UInt8 := l ++ List.replicate ((64 - l.length % 64) % 64) 0
theorem pad64_length (l : List UInt8) : (pad64 l).length = 64 * ((l.length + 63) / 64) := by
  unfold pad64
  rw [List.length_append, List.length_replicate]
  omega
theorem pad64_first (f l : List UInt8) (h : f.length = 64) : pad64 (f ++ l) = f ++ pad64 l := by
  unfold pad64
  rw [List.append_assoc, List.length_append, h]
  congr 3
  omega
/-- a record's sectors -/
def recB (last : List UInt8) (n : Nat) (b : List UInt8) : List UInt8 := firstB n b (sumR last n b) ++ pad64 (b.drop 19)
theorem recB_length (last : List UInt8) (n : Nat) (b : List UInt8) (hb : b.length ≤ 100000) : (recB last n b).length = 64 * needN b.length := by
  unfold recB
  rw [List.length_append, firstB_length _ _ _ (sumR_length _ _ _), pad64_length, List.length_drop, needN_le _ hb]
  omega
/-- all records' sectors, with the sum and the number behind them -/
def allP (T : List (List UInt8)) : List UInt8 × List UInt8 × Nat := T.foldl (fun p t => (p.1 ++ recB p.2.1 p.2.2 t, sumR p.2.1 p.2.2 t, p.2.2 + 1)) ([], List.replicate 32 0, 0)
def allB (T : List (List UInt8)) : List UInt8 := (allP T).1
theorem allP_snd (T : List (List UInt8)) : (allP T).2 = lastP T := by
  unfold allP lastP
  have : ∀ (T : List (List UInt8)) (p : List UInt8 × List UInt8 × Nat), (T.foldl (fun p t => (p.1 ++ recB p.2.1 p.2.2 t, sumR p.2.1 p.2.2 t, p.2.2 + 1)) p).2 = T.foldl (fun p t => (sumR p.1 p.2 t, p.2 + 1)) p.2 := by
    intro T
    induction T with
    | nil => intro p; rfl
    | cons t T ih => intro p; rw [List.foldl_cons, List.foldl_cons, ih]
  exact this T _
theorem allB_snoc (T : List (List UInt8)) (t : List UInt8) : allB (T ++ [t]) = allB T ++ recB (lastR T) T.length t := by
  have h : allP (T ++ [t]) = ((allP T).1 ++ recB (allP T).2.1 (allP T).2.2 t, sumR (allP T).2.1 (allP T).2.2 t, (allP T).2.2 + 1) := by
    unfold allP
    rw [List.foldl_append]
    rfl
  unfold allB
  rw [h, allP_snd, lastP_len]
  rfl
end Go.Proofs.Ytmmjihkcofgmmaa

/- One byte, appended to a row of the call's own. -/
namespace Go.Proofs.Ytmmjihkcofgmmaa
open Go.RowKit
set_option linter.unusedVariables false

theorem wpList_app1 {ops : Array Oper} {rest : List Oper} {o : Oper} {a : Act} {w : World} {Q : Exit → Act → World → Prop} (hgd : o.guard = none) (s x : Operand) (d : Tmp) (hd : o.dst = some d)
    (ho : o.op = .call { callee := .builtin .append, args := #[s, x], argTypes := #[26, 26] })
    (base : Nat) (v : Value) (l : List UInt8) (n : Nat) (hs : a.eval s = v) (hown : w.ownsRow base 5 1 v n (u8s l)) (g c : Nat) (y : UInt8) (hx : a.eval x = .slice (some ⟨g, 0, none⟩) 1 c) (hg : Blk w g 5 #[.int .u8 (y.toNat : Int)]) (hbd : n ≤ 100000000) (hbase : base ≤ w.heap.size)
    (h : ∀ v' w', w'.ownsRow base 5 1 v' (n + 1) (u8s (l ++ [y])) → Fr v.ownBlock.toList w w' → wpList Try.prog ops Q rest (a.put (some d) v') w') : wpList Try.prog ops Q (o :: rest) a w := by
  refine wpList_append hgd s x 26 ho base 5 (.int .u8 0) 1 1 Try.underlying26 infoU8 rfl (by decide) v n (u8s l) hs hown (some ⟨g, 0, none⟩) 1 c [.int .u8 (y.toNat : Int)] hx rfl (fun _ => ⟨_, rfl, fun j u hu => ?_⟩) (by simp [Value.oneCell']) (by unfold maxLen; omega) (by omega) hbase ?_
  · match j with
    | 0 => simp at hu; subst hu; rw [addr_add0, hg.cell]; rfl
    | j + 1 => simp at hu
  · intro v' w' ho' _ hg' _
    rw [hd]
    exact h v' w' (by simpa [u8s] using ho') ((Fr.refl _ _).grown hg' (fun k hk => .inl (by simp [hk])))
theorem fill_eq (b : List UInt8) (k : Nat) : (List.range k).map (fun j => b.getD j 0) = filledB (b.take k) k := by
  apply List.ext_getElem?
  intro i
  unfold filledB
  rw [List.getElem?_map]
  rcases Nat.lt_or_ge i k with hi | hi
  · rw [List.getElem?_range hi]
    rcases Nat.lt_or_ge i b.length with hb | hb
    · rw [List.getElem?_append_left (by rw [List.length_take]; omega), List.getElem?_take_of_lt hi, List.getElem?_eq_getElem hb]
      simp [List.getD_eq_getElem?_getD, hb]
    · rw [List.getElem?_append_right (by rw [List.length_take]; omega), List.getElem?_replicate_of_lt (by rw [List.length_take]; omega)]
      simp [List.getD_eq_getElem?_getD, hb]
  · rw [List.getElem?_eq_none (by simp; omega), List.getElem?_eq_none (by simp; omega)]
    rfl
end Go.Proofs.Ytmmjihkcofgmmaa
