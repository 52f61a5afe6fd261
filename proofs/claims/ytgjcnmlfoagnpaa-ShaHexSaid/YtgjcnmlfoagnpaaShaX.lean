/- A digest's digits. -/
import Derived.Test.YtgjcnmlfoagnpaaShaI
namespace Go.Proofs.Ytgjcnmlfoagnpaa
open Go.RowKit

/-- a byte's two digits -/
def hexD (n : Nat) : UInt8 := if n < 10 then UInt8.ofNat (48 + n) else UInt8.ofNat (87 + n)
def hexB (l : List UInt8) : List UInt8 := l.flatMap fun x => [hexD (x.toNat / 16), hexD (x.toNat % 16)]
theorem hex_step (l : List UInt8) (k : Nat) (x : UInt8) (h : l[k]? = some x) : hexB (l.take k) ++ [hexD (x.toNat / 16), hexD (x.toNat % 16)] = hexB (l.take (k + 1)) := by
  obtain ⟨hk, he⟩ := List.getElem?_eq_some_iff.1 h
  rw [List.take_succ_eq_append_getElem hk]
  simp [hexB, he]
theorem hexB_length (l : List UInt8) : (hexB l).length = 2 * l.length := by
  induction l with
  | nil => rfl
  | cons x l ih => simp [hexB] at ih ⊢; omega
/-- the text of a digest's digits -/
def DigS : Value := .string ⟨#[48, 49, 50, 51, 52, 53, 54, 55, 56, 57, 97, 98, 99, 100, 101, 102]⟩
theorem ix_dig (n : Nat) (hn : n < 16) (w : World) : (Instr.index 9 (.string ⟨#[48, 49, 50, 51, 52, 53, 54, 55, 56, 57, 97, 98, 99, 100, 101, 102]⟩) (.int .u8 (n : Int))).run Try.prog w = .ok (.int .u8 ((hexD n).toNat : Int)) w := by
  rcases (show n = 0 ∨ n = 1 ∨ n = 2 ∨ n = 3 ∨ n = 4 ∨ n = 5 ∨ n = 6 ∨ n = 7 ∨ n = 8 ∨ n = 9 ∨ n = 10 ∨ n = 11 ∨ n = 12 ∨ n = 13 ∨ n = 14 ∨ n = 15 by omega) with rfl | rfl | rfl | rfl | rfl | rfl | rfl | rfl | rfl | rfl | rfl | rfl | rfl | rfl | rfl | rfl <;> kernel_rfl
theorem and15 : ∀ n : Nat, n < 256 → bits .and .u8 (n : Int) 15 = ((n % 16 : Nat) : Int) := by decide +kernel
def HexT (w : World) (d : List UInt8) (e : Ending) (w' : World) : Prop := e = .returned (.string (str (hexB d))) ∧ Fr [] w w'
set_option maxHeartbeats 2000000 in
theorem hex_calls (w : World) (d : List UInt8) (hd : d.length = 32) : Calls Try.prog 19 #[.agg (u8s d).toArray] w (HexT w d) := by
  have HD := Lib.hid hd
  have HB := Lib.hid (Blk.new w 25 (u8s d).toArray)
  have HC := Lib.hid (show ∀ j v, (u8s d)[j]? = some v → (w.alloc (.cells (u8s d).toArray 25)).cell? ⟨w.heap.size, 0 + j, none⟩ = some v from fun j v hv => by rw [(Blk.new w 25 (u8s d).toArray).cell, List.getElem?_toArray, Nat.zero_add]; exact hv)
  have HS := Lib.hid (dig_size d hd)
  have HF0 := Lib.hid ((Fr.refl [] w).alloc (.cells (u8s d).toArray 25))
  clear hd
  go_enter Try.func19, Try.ntmps19
  go_wp2_with (first
    | (refine box_agg rfl 25 (.tmp 0) rfl (u8s d).toArray rfl ?_)
    | (refine wpList_load_agg rfl 25 (.tmp 1) rfl w.heap.size 0 rfl (u8s d) _ HC.out Try.underlying25 rfl HS.out ?_))
  go_loopg [3, 7] 32 (fun gg v u wr => ∃ k : Nat, k ≤ 32 ∧ gg = 32 - k ∧ u = .int .i64 k ∧ wr.ownsRow w.heap.size 5 1 v (2 * k) (u8s (hexB (d.take k))) ∧ Fr [] w wr)
  case atStart => exact ⟨0, by omega, by omega, rfl, by simpa [hexB, u8s] using World.ownsRow_nil _ _ _ _, HF0.out⟩
  case round =>
    obtain ⟨k, hk, rfl, rfl, ho, hf⟩ := hrel
    have HO := Lib.hid ho; have HF := Lib.hid hf
    clear ho hf
    by_cases hlt : k < 32
    · obtain ⟨x, hx⟩ : ∃ x, d[k]? = some x := ⟨d[k]'(by have := HD.out; omega), by simp⟩
      have hix := run_index_aggU8 (P := Try.prog) Try.underlying25 Try.underlying5 size_u8 d HD.out k x hx
      have hxl : x.toNat < 256 := UInt8.toNat_lt _
      have hi1 := ix_dig (x.toNat / 16) (by omega)
      rw [show ((x.toNat / 16 : Nat) : Int) = (x.toNat : Int) / 16 by omega] at hi1
      have hi2 := ix_dig (x.toNat % 16) (by omega)
      rw [← and15 _ hxl] at hi2
      have hstep := hex_step d k x hx
      obtain ⟨y1, hy1⟩ : ∃ y, hexD (x.toNat / 16) = y := ⟨_, rfl⟩
      obtain ⟨y2, hy2⟩ : ∃ y, hexD (x.toNat % 16) = y := ⟨_, rfl⟩
      rw [hy1] at hi1 hstep; rw [hy2] at hi2 hstep
      have HST := Lib.hid hstep
      have hkI : (0 : Int) ≤ (k : Int) ∧ (k : Int) < 32 := by omega
      clear hx hy1 hy2 hstep hxl
      go_wp2_with fail
      have HO1 := Lib.hid (HO.out.drew.alloc (.cells #[u8v y1, u8v y2] 5))
      have HF1 := Lib.hid (HF.out.drew.alloc (.cells #[u8v y1, u8v y2] 5))
      have HS1 := Lib.hid HF1.out.size
      have hb2 : 2 * k + 2 ≤ 1000000000 := by omega
      refine seq_begin (by kernel_rfl) ?_
      refine seq_take (i := 0) (v := u3) (d := 10) rfl (by kernel_rfl) (by kernel_rfl) (by kernel_rfl) (by kernel_rfl) (by kernel_rfl) (fun _ _ _ h => h) ?_ ?_
      · intro w9; kernel_rfl
      try simp only [Act.put, List.setIfInBounds_toArray, List.set_cons_zero, List.set_cons_succ]
      refine seq_take (i := 1) (v := (.int .u8 (x.toNat : Int))) (d := 11) rfl (by kernel_rfl) (by kernel_rfl) (by kernel_rfl) (by kernel_rfl) (by kernel_rfl) (fun _ _ _ h => h) ?_ ?_
      · intro w9; kernel_rfl
      try simp only [Act.put, List.setIfInBounds_toArray, List.set_cons_zero, List.set_cons_succ]
      refine seq_take (i := 2) (v := (.int .u8 ((x.toNat : Int) / 16))) (d := 12) rfl (by kernel_rfl) (by kernel_rfl) (by kernel_rfl) (by kernel_rfl) (by kernel_rfl) (fun _ _ _ h => h) ?_ ?_
      · intro w9; go_simp
      try simp only [Act.put, List.setIfInBounds_toArray, List.set_cons_zero, List.set_cons_succ]
      refine seq_take (i := 3) (v := (.int .u8 (y1.toNat : Int))) (d := 13) rfl (by kernel_rfl) (by kernel_rfl) (by kernel_rfl) (by kernel_rfl) (by kernel_rfl) (fun _ _ _ h => h) ?_ ?_
      · intro w9; go_simp
      try simp only [Act.put, List.setIfInBounds_toArray, List.set_cons_zero, List.set_cons_succ]
      refine seq_take (i := 4) (v := (.int .u8 (x.toNat : Int))) (d := 14) rfl (by kernel_rfl) (by kernel_rfl) (by kernel_rfl) (by kernel_rfl) (by kernel_rfl) (fun _ _ _ h => h) ?_ ?_
      · intro w9; kernel_rfl
      try simp only [Act.put, List.setIfInBounds_toArray, List.set_cons_zero, List.set_cons_succ]
      refine seq_take (i := 5) (v := (.int .u8 (bits .and .u8 (x.toNat : Int) 15))) (d := 15) rfl (by kernel_rfl) (by kernel_rfl) (by kernel_rfl) (by kernel_rfl) (by kernel_rfl) (fun _ _ _ h => h) ?_ ?_
      · intro w9; kernel_rfl
      try simp only [Act.put, List.setIfInBounds_toArray, List.set_cons_zero, List.set_cons_succ]
      refine seq_take (i := 6) (v := (.int .u8 (y2.toNat : Int))) (d := 16) rfl (by kernel_rfl) (by kernel_rfl) (by kernel_rfl) (by kernel_rfl) (by kernel_rfl) (fun _ _ _ h => h) ?_ ?_
      · intro w9; go_simp
      try simp only [Act.put, List.setIfInBounds_toArray, List.set_cons_zero, List.set_cons_succ]
      refine seq_only (i := 7) rfl (by kernel_rfl) (by kernel_rfl) ?_
      have hr7 := fun (a : Act) (o : Oper) (K : Act → World → Prop) (Q : Exit → Act → World → Prop) => @sq_val Try.prog Q a o wr.drew K (.slice (some ⟨wr.drew.heap.size, 0, none⟩) 2 2) (wr.drew.alloc (.cells #[u8v y1, u8v y2] 5)) 17
      refine hr7 _ _ _ _ ?_ ?_ ?_
      · kernel_rfl
      · kernel_rfl
      clear hr7
      try simp only [Act.put, List.setIfInBounds_toArray, List.set_cons_zero, List.set_cons_succ]
      refine seq_only (i := 8) rfl (by kernel_rfl) (by kernel_rfl) ?_
      have hr8 := fun (a : Act) (o : Oper) (K : Act → World → Prop) (Q : Exit → Act → World → Prop) (hgd : o.guard = none) (hd : o.dst = some 18) => @sq_appU8 Q o a (wr.drew.alloc (.cells #[u8v y1, u8v y2] 5)) K hgd (.tmp 10) (.tmp 17) 18 hd
      have hr9 := fun (a : Act) (o : Oper) (K : Act → World → Prop) (Q : Exit → Act → World → Prop) (hgd : o.guard = none) (hd : o.dst = some 18) ho hs hx => hr8 a o K Q hgd hd ho w.heap.size u3 (2 * k) (hexB (d.take k)) hs HO1.out (some ⟨wr.drew.heap.size, 0, none⟩) 2 2 [y1, y2] hx rfl (rd_two wr.drew y1 y2 _) hb2 HS1.out
      refine hr9 _ _ _ _ ?_ ?_ ?_ ?_ ?_ ?_
      · kernel_rfl
      · kernel_rfl
      · kernel_rfl
      · kernel_rfl
      · kernel_rfl
      intro A1 c1 w1 ho1 hf1
      have HO2 := Lib.hid ho1; have HF2 := Lib.hid hf1; clear ho1 hf1 hr8 hr9
      try simp only [Act.put, List.setIfInBounds_toArray, List.set_cons_zero, List.set_cons_succ]
      refine seq_take (i := 9) (v := (.slice A1 (2 * k + 2) c1)) (d := 3) rfl (by kernel_rfl) (by kernel_rfl) (by kernel_rfl) (by kernel_rfl) (by kernel_rfl) (fun _ _ _ h => h) ?_ ?_
      · intro w9; kernel_rfl
      try simp only [Act.put, List.setIfInBounds_toArray, List.set_cons_zero, List.set_cons_succ]
      refine wpAnyH_done (by kernel_rfl) ?_ _
      go_wp2_with fail
      go_roundg (32 - (k + 1))
      case measure => omega
      case rel =>
        refine ⟨k + 1, by omega, rfl, by go_num, by rw [← HST.out]; exact HO2.out, HF1.out.trans' HF2.out (fun x hx => ?_)⟩
        simp only [Option.mem_toList] at hx
        exact .inr (HO.out.lt x hx).1
    · obtain rfl : k = 32 := by omega
      obtain ⟨A3, c3, rfl, h3, _, hr3, _⟩ := own_rd HO.out
      have e : d.take 32 = d := List.take_of_length_le (by have := HD.out; omega)
      rw [e] at hr3 ⊢
      obtain ⟨L, hL⟩ : ∃ L, hexB d = L := ⟨_, rfl⟩
      rw [hL] at hr3 ⊢
      have HL := Lib.hid hL
      have hcv := run_conv_str (P := Try.prog) (w := wr) (src := 22) (dst := 9) Try.underlying22 Try.underlying5 Try.underlying9 hr3 c3
      have hst := str_toList
      clear hr3 h3 hL e
      go_wp2_with fail
      go_ret
      rw [← HL.out]
      exact ⟨rfl, HF.out⟩
end Go.Proofs.Ytgjcnmlfoagnpaa
