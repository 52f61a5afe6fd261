/- History's law: same. -/
import Derived.Test.YtmgbimdebhhckaaHistT
namespace Go.Proofs.Ytmgbimdebhhckaa
open Go.RowKit
set_option linter.unusedVariables false

theorem ex_neq_digB {a : Act} {o : Oper} {x y : Operand} {yt : TypeId} {v : Bool} (w : World) (ho : o.op = .binOp .neq 25 x y yt) (xs ys : List UInt8) (h1 : a.eval x = .agg (u8s xs).toArray) (h2 : a.eval y = .agg (u8s ys).toArray) (hx : xs.length = 32) (hy : ys.length = 32) (hv : (!(xs == ys)) = v) :
    (execOp a.eval o).run Try.prog w = .ok (.value (.bool v)) w := by rw [ex_neq_dig w ho xs ys h1 h2 hx hy, hv]
def SameP (w : World) (b : Bool) (e : Ending) (w' : World) : Prop := e = .returned (.bool b) ∧ Fr [] w w'
set_option maxHeartbeats 4000000 in
theorem same_calls (w : World) (A : Option Addr) (n c : Nat) (la : List (List UInt8)) (hn : la.length = n) (hA : DgIn w A la) (B : Option Addr) (m d : Nat) (lb : List (List UInt8)) (hm : lb.length = m) (hB : DgIn w B lb) (hb : n ≤ 100000) (hb2 : m ≤ 100000) :
    Calls Try.prog 11 #[.slice A n c, .slice B m d] w (SameP w (la == lb)) := by
  have HA := Lib.hid hA; have HB := Lib.hid hB; have HN := Lib.hid hn; have HM := Lib.hid hm
  by_cases hnm : n = m
  · subst hnm
    clear hA hB hn hm hb2
    go_enter Try.func11, Try.ntmps11
    go_wp2
    go_loopg [5] n (fun gg u wr => ∃ k : Nat, k ≤ n ∧ gg = n - k ∧ u = .int .i64 k ∧ la.take k = lb.take k ∧ Fr [] w wr)
    case atStart => exact ⟨0, by omega, by omega, rfl, rfl, Fr.refl _ _⟩
    case round =>
      obtain ⟨k, hk, rfl, rfl, he, hf⟩ := hrel
      have HE := Lib.hid he; have HF := Lib.hid hf
      clear he hf
      by_cases hlt : k < n
      · obtain ⟨x, hx⟩ : ∃ t, la[k]? = some t := ⟨la[k]'(by have := HN.out; omega), by simp⟩
        obtain ⟨y, hy⟩ : ∃ t, lb[k]? = some t := ⟨lb[k]'(by have := HM.out; omega), by simp⟩
        obtain ⟨hx32, bA, oA, hA, hbA, hcA⟩ := HA.out k x hx
        obtain ⟨hy32, bB, oB, hB, hbB, hcB⟩ := HB.out k y hy
        subst hA hB
        have HCA := Lib.hid (fun w9 (h9 : OldW wr w9) => (fun j v hv => by
          rw [(HF.out.trans h9).cell (p := ⟨bA, oA + k * 32 + j, none⟩) hbA (by simp)]; exact hcA j v hv : ∀ j v, (u8s x)[j]? = some v → w9.cell? ⟨bA, oA + k * 32 + j, none⟩ = some v))
        have HCB := Lib.hid (fun w9 (h9 : OldW wr w9) => (fun j v hv => by
          rw [(HF.out.trans h9).cell (p := ⟨bB, oB + k * 32 + j, none⟩) hbB (by simp)]; exact hcB j v hv : ∀ j v, (u8s y)[j]? = some v → w9.cell? ⟨bB, oB + k * 32 + j, none⟩ = some v))
        have HDX := Lib.hid (dig_size x hx32); have HDY := Lib.hid (dig_size y hy32); have HX32 := Lib.hid hx32; have HY32 := Lib.hid hy32
        have HIA := Lib.hid (fun w9 => run_index_slice' (P := Try.prog) (t := 22) (size := 32) w9 Try.underlying22 dg_size (A := some ⟨bA, oA, none⟩) (n := n) (c := c) (j := k) rfl hlt)
        have HIB := Lib.hid (fun w9 => run_index_slice' (P := Try.prog) (t := 22) (size := 32) w9 Try.underlying22 dg_size (A := some ⟨bB, oB, none⟩) (n := n) (c := d) (j := k) rfl hlt)
        have HKX := Lib.hid hx; have HKY := Lib.hid hy
        have hkI : (0 : Int) ≤ (k : Int) ∧ (k : Int) < (n : Int) := by omega
        clear hx hy hx32 hy32 hbA hbB hcA hcB
        cases hxy : (x == y) with
        | true =>
          have HEQ := Lib.hid (show (!(x == y)) = false by rw [hxy]; rfl)
          have HXY := Lib.hid (show x = y from by simpa using hxy)
          clear hxy
          go_wp2_with fail
          have hS1 : OldW wr wr.drew := (Fr.refl [] wr).drew
          refine sqo_begin (w0 := wr) (by kernel_rfl) ?_
          refine sqo_take (i := 0) (v := (.slice (some ⟨bA, oA, none⟩) n c)) (d := 17) rfl (by kernel_rfl) (by kernel_rfl) (by kernel_rfl) (by kernel_rfl) (by kernel_rfl) (fun _ _ _ h => h) ?_ (by assumption) ?_
          · intro w9 h9; kernel_rfl
          try simp only [Act.put, List.setIfInBounds_toArray, List.set_cons_zero, List.set_cons_succ]
          refine sqo_take (i := 1) (v := (.int .i64 (k : Int))) (d := 18) rfl (by kernel_rfl) (by kernel_rfl) (by kernel_rfl) (by kernel_rfl) (by kernel_rfl) (fun _ _ _ h => h) ?_ (by assumption) ?_
          · intro w9 h9; kernel_rfl
          try simp only [Act.put, List.setIfInBounds_toArray, List.set_cons_zero, List.set_cons_succ]
          refine sqo_take (i := 2) (v := (.pointer (some ⟨bA, oA + k * 32, none⟩))) (d := 19) rfl (by kernel_rfl) (by kernel_rfl) (by kernel_rfl) (by kernel_rfl) (by kernel_rfl) (fun _ _ _ h => h) ?_ (by assumption) ?_
          · intro w9 h9; exact ex_ixa rfl (by kernel_rfl) (by kernel_rfl) (HIA.out w9)
          try simp only [Act.put, List.setIfInBounds_toArray, List.set_cons_zero, List.set_cons_succ]
          refine sqo_take (i := 3) (v := (.agg (u8s x).toArray)) (d := 20) rfl (by kernel_rfl) (by kernel_rfl) (by kernel_rfl) (by kernel_rfl) (by kernel_rfl) (fun _ _ _ h => h) ?_ (by assumption) ?_
          · intro w9 h9; exact exec_load_agg rfl bA (oA + k * 32) (by kernel_rfl) (u8s x) _ (HCA.out w9 h9) Try.underlying25 rfl HDX.out
          try simp only [Act.put, List.setIfInBounds_toArray, List.set_cons_zero, List.set_cons_succ]
          refine sqo_take (i := 4) (v := (.slice (some ⟨bB, oB, none⟩) n d)) (d := 21) rfl (by kernel_rfl) (by kernel_rfl) (by kernel_rfl) (by kernel_rfl) (by kernel_rfl) (fun _ _ _ h => h) ?_ (by assumption) ?_
          · intro w9 h9; kernel_rfl
          try simp only [Act.put, List.setIfInBounds_toArray, List.set_cons_zero, List.set_cons_succ]
          refine sqo_take (i := 5) (v := (.int .i64 (k : Int))) (d := 22) rfl (by kernel_rfl) (by kernel_rfl) (by kernel_rfl) (by kernel_rfl) (by kernel_rfl) (fun _ _ _ h => h) ?_ (by assumption) ?_
          · intro w9 h9; kernel_rfl
          try simp only [Act.put, List.setIfInBounds_toArray, List.set_cons_zero, List.set_cons_succ]
          refine sqo_take (i := 6) (v := (.pointer (some ⟨bB, oB + k * 32, none⟩))) (d := 23) rfl (by kernel_rfl) (by kernel_rfl) (by kernel_rfl) (by kernel_rfl) (by kernel_rfl) (fun _ _ _ h => h) ?_ (by assumption) ?_
          · intro w9 h9; exact ex_ixa rfl (by kernel_rfl) (by kernel_rfl) (HIB.out w9)
          try simp only [Act.put, List.setIfInBounds_toArray, List.set_cons_zero, List.set_cons_succ]
          refine sqo_take (i := 7) (v := (.agg (u8s y).toArray)) (d := 24) rfl (by kernel_rfl) (by kernel_rfl) (by kernel_rfl) (by kernel_rfl) (by kernel_rfl) (fun _ _ _ h => h) ?_ (by assumption) ?_
          · intro w9 h9; exact exec_load_agg rfl bB (oB + k * 32) (by kernel_rfl) (u8s y) _ (HCB.out w9 h9) Try.underlying25 rfl HDY.out
          try simp only [Act.put, List.setIfInBounds_toArray, List.set_cons_zero, List.set_cons_succ]
          refine sqo_take (i := 8) (v := (.bool false)) (d := 25) rfl (by kernel_rfl) (by kernel_rfl) (by kernel_rfl) (by kernel_rfl) (by kernel_rfl) (fun _ _ _ h => h) ?_ (by assumption) ?_
          · intro w9 h9; exact ex_neq_digB w9 rfl x y (by kernel_rfl) (by kernel_rfl) HX32.out HY32.out HEQ.out
          try simp only [Act.put, List.setIfInBounds_toArray, List.set_cons_zero, List.set_cons_succ]
          refine wpAnyH_done (by kernel_rfl) ?_ _
          go_wp2_with fail
          go_roundg (n - (k + 1))
          case measure => omega
          case rel =>
            refine ⟨k + 1, by omega, rfl, by go_num, ?_, HF.out.drew⟩
            rw [List.take_add_one, List.take_add_one, HE.out, HKX.out, HKY.out, HXY.out]
        | false =>
          have HEQ := Lib.hid (show (!(x == y)) = true by rw [hxy]; rfl)
          have HXY := Lib.hid (show ¬ x = y from by simpa using hxy)
          clear hxy
          go_wp2_with fail
          have hS1 : OldW wr wr.drew := (Fr.refl [] wr).drew
          refine sqo_begin (w0 := wr) (by kernel_rfl) ?_
          refine sqo_take (i := 0) (v := (.slice (some ⟨bA, oA, none⟩) n c)) (d := 17) rfl (by kernel_rfl) (by kernel_rfl) (by kernel_rfl) (by kernel_rfl) (by kernel_rfl) (fun _ _ _ h => h) ?_ (by assumption) ?_
          · intro w9 h9; kernel_rfl
          try simp only [Act.put, List.setIfInBounds_toArray, List.set_cons_zero, List.set_cons_succ]
          refine sqo_take (i := 1) (v := (.int .i64 (k : Int))) (d := 18) rfl (by kernel_rfl) (by kernel_rfl) (by kernel_rfl) (by kernel_rfl) (by kernel_rfl) (fun _ _ _ h => h) ?_ (by assumption) ?_
          · intro w9 h9; kernel_rfl
          try simp only [Act.put, List.setIfInBounds_toArray, List.set_cons_zero, List.set_cons_succ]
          refine sqo_take (i := 2) (v := (.pointer (some ⟨bA, oA + k * 32, none⟩))) (d := 19) rfl (by kernel_rfl) (by kernel_rfl) (by kernel_rfl) (by kernel_rfl) (by kernel_rfl) (fun _ _ _ h => h) ?_ (by assumption) ?_
          · intro w9 h9; exact ex_ixa rfl (by kernel_rfl) (by kernel_rfl) (HIA.out w9)
          try simp only [Act.put, List.setIfInBounds_toArray, List.set_cons_zero, List.set_cons_succ]
          refine sqo_take (i := 3) (v := (.agg (u8s x).toArray)) (d := 20) rfl (by kernel_rfl) (by kernel_rfl) (by kernel_rfl) (by kernel_rfl) (by kernel_rfl) (fun _ _ _ h => h) ?_ (by assumption) ?_
          · intro w9 h9; exact exec_load_agg rfl bA (oA + k * 32) (by kernel_rfl) (u8s x) _ (HCA.out w9 h9) Try.underlying25 rfl HDX.out
          try simp only [Act.put, List.setIfInBounds_toArray, List.set_cons_zero, List.set_cons_succ]
          refine sqo_take (i := 4) (v := (.slice (some ⟨bB, oB, none⟩) n d)) (d := 21) rfl (by kernel_rfl) (by kernel_rfl) (by kernel_rfl) (by kernel_rfl) (by kernel_rfl) (fun _ _ _ h => h) ?_ (by assumption) ?_
          · intro w9 h9; kernel_rfl
          try simp only [Act.put, List.setIfInBounds_toArray, List.set_cons_zero, List.set_cons_succ]
          refine sqo_take (i := 5) (v := (.int .i64 (k : Int))) (d := 22) rfl (by kernel_rfl) (by kernel_rfl) (by kernel_rfl) (by kernel_rfl) (by kernel_rfl) (fun _ _ _ h => h) ?_ (by assumption) ?_
          · intro w9 h9; kernel_rfl
          try simp only [Act.put, List.setIfInBounds_toArray, List.set_cons_zero, List.set_cons_succ]
          refine sqo_take (i := 6) (v := (.pointer (some ⟨bB, oB + k * 32, none⟩))) (d := 23) rfl (by kernel_rfl) (by kernel_rfl) (by kernel_rfl) (by kernel_rfl) (by kernel_rfl) (fun _ _ _ h => h) ?_ (by assumption) ?_
          · intro w9 h9; exact ex_ixa rfl (by kernel_rfl) (by kernel_rfl) (HIB.out w9)
          try simp only [Act.put, List.setIfInBounds_toArray, List.set_cons_zero, List.set_cons_succ]
          refine sqo_take (i := 7) (v := (.agg (u8s y).toArray)) (d := 24) rfl (by kernel_rfl) (by kernel_rfl) (by kernel_rfl) (by kernel_rfl) (by kernel_rfl) (fun _ _ _ h => h) ?_ (by assumption) ?_
          · intro w9 h9; exact exec_load_agg rfl bB (oB + k * 32) (by kernel_rfl) (u8s y) _ (HCB.out w9 h9) Try.underlying25 rfl HDY.out
          try simp only [Act.put, List.setIfInBounds_toArray, List.set_cons_zero, List.set_cons_succ]
          refine sqo_take (i := 8) (v := (.bool true)) (d := 25) rfl (by kernel_rfl) (by kernel_rfl) (by kernel_rfl) (by kernel_rfl) (by kernel_rfl) (fun _ _ _ h => h) ?_ (by assumption) ?_
          · intro w9 h9; exact ex_neq_digB w9 rfl x y (by kernel_rfl) (by kernel_rfl) HX32.out HY32.out HEQ.out
          try simp only [Act.put, List.setIfInBounds_toArray, List.set_cons_zero, List.set_cons_succ]
          refine wpAnyH_done (by kernel_rfl) ?_ _
          go_wp2_with fail
          go_ret
          have h : (la == lb) = false := by
            rw [beq_eq_false_iff_ne]
            rintro rfl
            rw [HKX.out] at HKY
            exact HXY.out (by injection HKY.out)
          rw [h]
          exact ⟨rfl, HF.out.drew⟩
      · obtain rfl : n = k := by omega
        go_wp2
        go_ret
        have h : (la == lb) = true := by
          have := HE.out
          rw [List.take_of_length_le (by have := HN.out; omega), List.take_of_length_le (by have := HM.out; omega)] at this
          simpa using this
        rw [h]
        exact ⟨rfl, HF.out⟩
  · have hne : ((n : Int) == (m : Int)) = false := by rw [beq_eq_false_iff_ne]; omega
    have HX := Lib.hid (show (la == lb) = false by rw [beq_eq_false_iff_ne]; intro h; exact hnm (by rw [← hn, ← hm, h]))
    clear hA hB hn hm hb2 hb hnm
    go_enter Try.func11, Try.ntmps11
    go_wp2
    go_ret
    rw [HX.out]
    exact ⟨rfl, Fr.refl _ _⟩
end Go.Proofs.Ytmgbimdebhhckaa
