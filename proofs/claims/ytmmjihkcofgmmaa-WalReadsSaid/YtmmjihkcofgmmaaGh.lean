/- The texts WalO WalP WalQ WalR of this seat, one behind another; what each says stands at its head. -/
import Derived.Test.YtmmjihkcofgmmaaGg
import Derived.RangeFuncNested
import Derived.RangeFuncBox
import Derived.RangeFuncCalls
import Derived.RangeFuncLeaves
import Derived.Shelf.Abstract
import Derived.Shelf.RegionOpen
import Derived.OwnWalkIn
import Derived.TacticsInMore
import Derived.LoopNIn
import Derived.LoopIn

/- In a round of a loop over an iterator: a region that draws its order; slices.Chunk. -/
namespace Go.Proofs.Ytmmjihkcofgmmaa
open Go.RowKit
set_option linter.unusedVariables false
attribute [local go_sem] Oper.semAt_some

section
variable {P : Program} {l n : Nat} {Q : Exit → Act → World → Prop} {ops : Array Oper} {md : Region.Mode}
theorem upon_in {o : Oper} {a : Act} {K : Act → World → Prop} {r : Result Next} (h : o.upon P a K Q r) : o.uponIn (Fence.wide.inRound l) n P a K Q r := by
  cases r with
  | ok x w' =>
    cases x <;> simp only [Oper.upon, Oper.uponIn] at h ⊢
    case value => exact h
    case skip => exact h
    case defer => exact h
    case enter f args => exact ⟨fun hd => (by cases hd), CallsIn.inRound l (callsIn_wide.2 h)⟩
    case row row args => exact ⟨fun hd => (by cases hd), fun c cs _ => let ⟨v, w', r, s⟩ := h c cs; ⟨v, w', r, stepsIn_wide.2 s⟩⟩
  | halt x w' => cases x <;> simp only [Oper.upon, Oper.uponIn] at h ⊢ <;> exact h
theorem wpOp_in {i : Nat} {a : Act} {w : World} {K : Act → World → Prop} (hnd : ∀ (j : Nat) (o : Oper), ops[j]? = some o → ∀ c, o.op ≠ .defer c) (hlo : ¬ LetsOut Q) (h : wpOp P ops Q i K a w) : wpOpIn (Fence.wide.inRound l) n P ops Q i K a w := by
  unfold wpOp at h
  unfold wpOpIn
  cases ho : ops[i]? with
  | none => simp only [ho] at h; exact h
  | some o =>
    simp only [ho] at h
    by_cases hw : Region.wanted o (yielded ops a.tmps) = true
    · simp only [hw, if_true] at h ⊢
      rcases h with h | h
      · unfold Oper.wpIn
        refine ⟨fun _ _ => trivial, ?_⟩
        have hs : Oper.semAt (Fence.wide.inRound l).round a.eval o = execOp a.eval o := Oper.semAt_some l a.eval o (hnd i o ho)
        rw [hs]
        exact upon_in h
      · exact absurd h.2 hlo
    · simp only [hw] at h ⊢
      exact ⟨fun _ _ => trivial, h⟩
theorem wpAny_in (hnd : ∀ (j : Nat) (o : Oper), ops[j]? = some o → ∀ c, o.op ≠ .defer c) (hlo : ¬ LetsOut Q) : ∀ (fuel : Nat) (listed : Array Bool) (a : Act) (w : World), wpAny P md ops Q fuel listed a w → wpAnyIn (Fence.wide.inRound l) n P md ops Q fuel listed a w
  | 0, _, _, _, h => h
  | fuel + 1, listed, a, w, h => ⟨h.1, fun i hi => wpOpIn_mono (fun a' w' h' => wpAny_in hnd hlo fuel _ a' w' h') (wpOp_in hnd hlo (h.2 i hi))⟩
/-- a drawn region in a round, walked as one outside -/
theorem region_in_round (S : World → Prop) {id : Nat} {a : Act} {w : World} (hm : P.follows .mixedOrders = true) (hnd : ∀ (j : Nat) (o : Oper), ops[j]? = some o → ∀ c, o.op ≠ .defer c) (hlo : ¬ LetsOut Q)
    (h : wpAnyH P .any ops Q S ops.size (Array.replicate ops.size false) a w.drew) : (Code.region id ops true).wpIn (Fence.wide.inRound l) n P Q a w :=
  wpIn_region_any hm (wpAny_in hnd hlo _ _ _ _ (wpAny_of_held _ _ _ _ h))
end
end Go.Proofs.Ytmmjihkcofgmmaa

/- slices.Chunk, at 64 bytes. -/
namespace Go.Proofs.Ytmmjihkcofgmmaa
open Go.RowKit
set_option linter.unusedVariables false
attribute [local go_sem] Oper.semAt_some

/-- what a round keeps: the iterator's two boxes -/
def Keep2 (Bs Bn : Nat) (W W' : World) : Prop := W'.cell? ⟨Bs, 0, none⟩ = W.cell? ⟨Bs, 0, none⟩ ∧ W'.cell? ⟨Bn, 0, none⟩ = W.cell? ⟨Bn, 0, none⟩
theorem keep2_t {Bs Bn : Nat} {A B C : World} (h : Keep2 Bs Bn A B) (k : Keep2 Bs Bn B C) : Keep2 Bs Bn A C := ⟨k.1.trans h.1, k.2.trans h.2⟩
theorem keep2_b {Bs Bn : Nat} {w : World} (h1 : Bs < w.heap.size) (h2 : Bn < w.heap.size) (W : World) (l : Nat) (o o' : Obj) (hl : w.heap.size ≤ l) (_ : W.heap[l]? = some o) (_ : o.isCells = false) (_ : o.isWalk = false) : Keep2 Bs Bn W (W.putObj l o') :=
  ⟨World.cell?_of_block (World.putObj_heap_other (by show Bs ≠ l; omega)), World.cell?_of_block (World.putObj_heap_other (by show Bn ≠ l; omega))⟩
theorem keep2_fr {Bs Bn : Nat} {S : List Nat} {W W' : World} (hf : Fr S W W') (h1 : Bs < W.heap.size) (h2 : Bn < W.heap.size) (n1 : Bs ∉ S) (n2 : Bn ∉ S) : Keep2 Bs Bn W W' := ⟨hf.cell h1 n1, hf.cell h2 n2⟩
/-- a part of the bytes -/
def chunkN (m j : Nat) : Nat := min 64 (m - 64 * j)
def chunkV (A : Option Addr) (m j : Nat) : Value := .slice (A.map (·.add (64 * j))) (chunkN m j) (chunkN m j)
theorem run_chunk (w : World) (A : Option Addr) (m c j : Nat) (h : 64 * j < m) (hmc : m ≤ c) : (Instr.slice 26 (.slice A m c) (some (.int .i64 (64 * (j : Int)))) (some (.int .i64 (64 * (j : Int) + (chunkN m j : Int)))) (some (.int .i64 (64 * (j : Int) + (chunkN m j : Int))))).run Try.prog w = .ok (chunkV A m j) w := by
  have hc : chunkN m j = min 64 (m - 64 * j) := rfl
  rw [run_slice_lhm w 26 A m c (by kernel_rfl) .i64 .i64 .i64 _ _ _ (by omega) (by omega) (by omega) (by omega)]
  have hsz : ∀ w, (sizeOf (Try.prog.elem 26)).run Try.prog w = .ok 1 w := fun w => by kernel_rfl
  rw [hsz]
  simp only [Result.andThen, sliced, chunkV]
  have e1 : (64 * (j : Int)).toNat = 64 * j := by omega
  have e2 : (64 * (j : Int) + (chunkN m j : Int)).toNat = 64 * j + chunkN m j := by omega
  rw [e1, e2, if_neg (by omega), Nat.add_sub_cancel_left, Nat.mul_one]
theorem ex_from (A : Option Addr) (m c j : Nat) (h : 64 * j ≤ m) : ∃ A', ∀ w, (Instr.sliceAt 26 (.slice A m c) (some (.int .i64 (64 * (j : Int)))) none none).run Try.prog w = .ok (.slice A' (m - 64 * j) (c - 64 * j)) w := by
  refine ⟨if c = 64 * j then A else A.map (·.add (64 * j * 1)), fun w => ?_⟩
  rw [run_sliceAt_slice w 26 _ _ _ _ (by kernel_rfl), run_slice_l w 26 A m c (by kernel_rfl) .i64 _ (by omega) (by omega)]
  have hsz : ∀ w, (sizeOf (Try.prog.elem 26)).run Try.prog w = .ok 1 w := fun w => by kernel_rfl
  rw [hsz]
  simp only [Result.andThen, sliced]
  have e1 : (64 * (j : Int)).toNat = 64 * j := by omega
  rw [e1]
theorem ex_slice {P : Program} {a : Act} {o : Oper} {t : TypeId} {x y : Operand} {u i v : Value} {w : World} (ho : o.op = .slice t x (some y) none none) (hx : a.eval x = u) (hy : a.eval y = i) (h : (Instr.sliceAt t u (some i) none none).run P w = .ok v w) : (execOp a.eval o).run P w = .ok (.value v) w := by
  unfold execOp
  simp [ho, hx, hy, h]
set_option maxRecDepth 100000 in
set_option maxHeartbeats 2000000 in
theorem chunk1_in (n : Nat) (l Bs Bn B : Nat) (A : Option Addr) (m c : Nat) (hmc : m ≤ c) (hm : m ≤ 1000000) (J Jx : List Nat → World → Prop) (hJA : AbidesFrom B J)
    (hY : ∀ pre x W, J pre W → pre.length < (m + 63) / 64 → YieldAt Fence.wide (n - 1) Try.prog l #[chunkV A m x] W fun e W' =>
      (e = .returned (.bool true) ∧ J (pre ++ [x]) W' ∧ Keep2 Bs Bn W W') ∨ (e = .returned (.bool false) ∧ Jx (pre ++ [x]) W'))
    (W : World) (hBs : W.cell? ⟨Bs, 0, none⟩ = some (.slice A m c)) (hBn : W.cell? ⟨Bn, 0, none⟩ = some (.int .i64 64)) (h0 : J [] W) :
    CallsIn Fence.wide n Try.prog 67 #[.func (.yield l) #[] #[], .pointer (some ⟨Bs, 0, none⟩), .pointer (some ⟨Bn, 0, none⟩)] W fun e W' => (∃ v, e = .returned v) ∧
      ((∃ ys, ys = List.range ((m + 63) / 64) ∧ J ys W') ∨ (∃ pre, True ∧ Jx pre W')) := by
  refine callsIn_of_wp Try.func67 rfl trivial ?_ rfl
  simp only [Try.ntmps67, List.size_toArray, List.length_cons, List.length_nil, Nat.reduceAdd, Nat.reduceSub, Array.replicate_succ, Array.replicate_zero, List.push_toArray, List.append_toArray, List.nil_append, List.cons_append]
  gi_wp2
  gi_loopw [4] (fun i wr => ∃ k : Nat, 64 * k ≤ m + 63 ∧ i = .int .i64 (64 * (k : Int)) ∧ J (List.range k) wr ∧ wr.cell? ⟨Bs, 0, none⟩ = some (.slice A m c) ∧ wr.cell? ⟨Bn, 0, none⟩ = some (.int .i64 64))
    (fun i _ => m + 100 - (intOf i).toNat)
  case atStart => exact ⟨0, by omega, rfl, h0, hBs, hBn⟩
  case round =>
    obtain ⟨k, hk, rfl, hJs, hs, hb⟩ := hrel
    by_cases hlt : 64 * k < m
    · obtain ⟨fn, tmps, assign, body, hy, hR⟩ := hY _ k wr.drew (hJA _ wr wr.drew none hJs ⟨rfl, rfl, rfl, Nat.le_refl _, fun _ _ _ => rfl⟩ (fun r e => by cases e)) (by rw [List.length_range]; omega)
      have hI : (0 : Int) ≤ (k : Int) ∧ 64 * (k : Int) < (m : Int) ∧ (m : Int) ≤ 1000000 := by omega
      obtain ⟨e, he⟩ : ∃ e, chunkN m k = e := ⟨_, rfl⟩
      have hee : e = min 64 (m - 64 * k) := he.symm
      have heI : (0 : Int) ≤ (e : Int) ∧ (e : Int) ≤ 64 ∧ 64 * (k : Int) + (e : Int) ≤ 1000000 := by omega
      have he0 : ¬ e = 0 := by omega
      have hec : 64 * (k : Int) + (e : Int) ≤ (c : Int) := by omega
      simp only [chunkV, he] at hy
      obtain ⟨A2, hA2⟩ := ex_from A m c k (by omega)
      obtain ⟨mm, hmm⟩ : ∃ mm, m - 64 * k = mm := ⟨_, rfl⟩
      obtain ⟨cc, hcc⟩ : ∃ cc, c - 64 * k = cc := ⟨_, rfl⟩
      rw [hmm, hcc] at hA2
      have HMM := Lib.hid hmm
      have HE := Lib.hid he
      clear hee he hmm hcc
      gi_wp2
      refine wpIn_wide.2 ?_
      have hS0 : wr.drew.cell? ⟨Bs, 0, none⟩ = some (.slice A m c) ∧ wr.drew.cell? ⟨Bn, 0, none⟩ = some (.int .i64 64) := ⟨hs, hb⟩
      refine sqs_begin (fun w9 => w9.cell? ⟨Bs, 0, none⟩ = some (.slice A m c) ∧ w9.cell? ⟨Bn, 0, none⟩ = some (.int .i64 64)) (by kernel_rfl) ?_
      refine sqs_take (i := 0) (v := (.int .i64 64)) (d := 13) rfl (by kernel_rfl) (by kernel_rfl) (by kernel_rfl) (by kernel_rfl) (by kernel_rfl) (fun _ _ _ h => h) ?_ (by assumption) ?_
      · intro w9 h9; exact exec_load_one rfl (by kernel_rfl) (.int .i64 64) (.int .i64) w9 h9.2 Try.underlying3 rfl
      try simp only [Act.put, List.setIfInBounds_toArray, List.set_cons_zero, List.set_cons_succ]
      refine sqs_take (i := 1) (v := (.slice A m c)) (d := 14) rfl (by kernel_rfl) (by kernel_rfl) (by kernel_rfl) (by kernel_rfl) (by kernel_rfl) (fun _ _ _ h => h) ?_ (by assumption) ?_
      · intro w9 h9; exact exec_load_one rfl (by kernel_rfl) (.slice A m c) (.slice 5) w9 h9.1 Try.underlying26 rfl
      try simp only [Act.put, List.setIfInBounds_toArray, List.set_cons_zero, List.set_cons_succ]
      refine sqs_take (i := 2) (v := (.int .i64 (64 * (k : Int)))) (d := 15) rfl (by kernel_rfl) (by kernel_rfl) (by kernel_rfl) (by kernel_rfl) (by kernel_rfl) (fun _ _ _ h => h) ?_ (by assumption) ?_
      · intro w9 h9; kernel_rfl
      try simp only [Act.put, List.setIfInBounds_toArray, List.set_cons_zero, List.set_cons_succ]
      refine sqs_take (i := 3) (v := (.slice A2 mm cc)) (d := 16) rfl (by kernel_rfl) (by kernel_rfl) (by kernel_rfl) (by kernel_rfl) (by kernel_rfl) (fun _ _ _ h => h) ?_ (by assumption) ?_
      · intro w9 h9; exact ex_slice rfl (by kernel_rfl) (by kernel_rfl) (hA2 w9)
      try simp only [Act.put, List.setIfInBounds_toArray, List.set_cons_zero, List.set_cons_succ]
      refine sqs_take (i := 4) (v := (.int .i64 (mm : Int))) (d := 17) rfl (by kernel_rfl) (by kernel_rfl) (by kernel_rfl) (by kernel_rfl) (by kernel_rfl) (fun _ _ _ h => h) ?_ (by assumption) ?_
      · intro w9 h9; kernel_rfl
      try simp only [Act.put, List.setIfInBounds_toArray, List.set_cons_zero, List.set_cons_succ]
      refine sqs_take (i := 5) (v := (.int .i64 (e : Int))) (d := 18) rfl (by kernel_rfl) (by kernel_rfl) (by kernel_rfl) (by kernel_rfl) (by kernel_rfl) (fun _ _ _ h => h) ?_ (by assumption) ?_
      · intro w9 h9; go_simp; have := HMM.out; have := HE.out; unfold chunkN at this; omega
      try simp only [Act.put, List.setIfInBounds_toArray, List.set_cons_zero, List.set_cons_succ]
      refine sqs_take (i := 6) (v := (.int .i64 (e : Int))) (d := 5) rfl (by kernel_rfl) (by kernel_rfl) (by kernel_rfl) (by kernel_rfl) (by kernel_rfl) (fun _ _ _ h => h) ?_ (by assumption) ?_
      · intro w9 h9; kernel_rfl
      try simp only [Act.put, List.setIfInBounds_toArray, List.set_cons_zero, List.set_cons_succ]
      refine wpAnyH_done (by kernel_rfl) ?_ _
      gi_wp2
      refine ⟨fun hd => (by cases hd), hR.mono ?_⟩
      rintro e W3 (⟨rfl, hJ3, hk3⟩ | ⟨rfl, hJx3⟩)
      · have hs3 := hk3.1.trans hs
        have hb3 := hk3.2.trans hb
        gi_wp2
        go_roundw
        case rel => exact ⟨k + 1, by omega, by simp; omega, by rw [List.range_succ]; exact hJ3, hs3, hb3⟩
        case measure => simp [intOf]; omega
      · gi_wp2
        refine bodyPost_ret (results_none rfl _ _ _) rfl ?_
        exact ⟨⟨_, rfl⟩, .inr ⟨_, trivial, hJx3⟩⟩
    · have hI : (0 : Int) ≤ (k : Int) ∧ (m : Int) ≤ 64 * (k : Int) := by omega
      have hE := Lib.hid (show k = (m + 63) / 64 by omega)
      gi_wp2
      go_end0
      exact ⟨⟨_, rfl⟩, .inl ⟨_, by rw [← hE.out], hJs⟩⟩
theorem chunk_stops (n : Nat) (Bs Bn : Nat) (A : Option Addr) (m c : Nat) (hmc : m ≤ c) (hm : m ≤ 1000000) (w : World) (h1 : Bs < w.heap.size) (h2 : Bn < w.heap.size) (hBs : w.cell? ⟨Bs, 0, none⟩ = some (.slice A m c)) (hBn : w.cell? ⟨Bn, 0, none⟩ = some (.int .i64 64)) :
    SeqStopsK Fence.wide n Try.prog 67 #[.pointer (some ⟨Bs, 0, none⟩), .pointer (some ⟨Bn, 0, none⟩)] (fun x : Nat => #[chunkV A m x]) (Keep2 Bs Bn) (fun ys => ys = List.range ((m + 63) / 64)) (fun _ => True) ((m + 63) / 64) w :=
  fun l J Jx W hW hJ _ hY h0 => chunk1_in n l Bs Bn W.heap.size A m c hmc hm J Jx hJ hY W ((hW.cell (p := ⟨Bs, 0, none⟩) h1).trans hBs) ((hW.cell (p := ⟨Bn, 0, none⟩) h2).trans hBn) h0
theorem chunk_in (w : World) (A : Option Addr) (m c : Nat) : Calls Try.prog 53 #[.slice A m c, .int .i64 64] w (fun e w' => e = .returned (.func (.func 67) #[] #[.pointer (some ⟨w.heap.size, 0, none⟩), .pointer (some ⟨w.heap.size + 1, 0, none⟩)]) ∧ w' = (w.alloc (.cells #[.slice A m c] 26)).alloc (.cells #[.int .i64 64] 3)) := by
  go_enter Try.func53, Try.ntmps53
  go_wp2
  go_ret
  exact ⟨rfl, rfl⟩
end Go.Proofs.Ytmmjihkcofgmmaa

/- The log: a record's sectors. -/
namespace Go.Proofs.Ytmmjihkcofgmmaa
open Go.RowKit
set_option linter.unusedVariables false
attribute [local go_sem] Oper.semAt_some

/-- a record's sectors, one by one -/
def partT (r : List UInt8) (j : Nat) : List UInt8 := filledB ((r.drop (64 * j)).take 64) 64
def partsT (r : List UInt8) (l : List Nat) : List (List UInt8) := l.map (partT r)
def secT (n : Nat) (b sum : List UInt8) : List (List UInt8) := firstB n b sum :: partsT (b.drop 19) (List.range ((b.length - 19 + 63) / 64))
theorem partT_length (r : List UInt8) (j : Nat) : (partT r j).length = 64 := filledB_length _ 64 (by rw [List.length_take]; omega)
theorem partsT_snoc (r : List UInt8) (l : List Nat) (j : Nat) : partsT r (l ++ [j]) = partsT r l ++ [partT r j] := by simp [partsT]
theorem Rd.kept {w w' : World} {row : Option Nat} {A : Option Addr} {l : List UInt8} (h : Rd w A l) (hg : w.grownBy w' row) (hr : ∀ r, row = some r → ∃ o : Obj, w.heap[r]? = some o ∧ o.isCells = false) : Rd w' A l :=
  fun hl => let ⟨b, off, hA, hc⟩ := h hl; ⟨b, off, hA, fun j x hx => cell_kept (hc j x hx) hg hr⟩
theorem own_kept {w w' : World} {row : Option Nat} {base : Nat} {e : TypeId} {size : Nat} {v : Value} {n : Nat} {xs : List Value} (h : w.ownsRow base e size v n xs) (hg : w.grownBy w' row) (hr : ∀ r, row = some r → ∃ o : Obj, w.heap[r]? = some o ∧ o.isCells = false) : w'.ownsRow base e size v n xs := by
  refine h.kept hg ?_
  rcases h.2 with ⟨rfl, _⟩ | ⟨g, cap, cur, rfl, _, hgb, _⟩
  · exact .inl rfl
  · refine .inr (fun e' => ?_)
    obtain ⟨o, ho, hc⟩ := hr g (by rw [← e']; rfl)
    rw [hgb] at ho
    cases ho
    cases hc
theorem TxRow.kept {w w' : World} {row : Option Nat} {v : Value} {D : List Nat} {base : Nat} {T : List (List UInt8)} (h : TxRow w v D base T) (hg : w.grownBy w' row) (hr : ∀ r, row = some r → ∃ o : Obj, w.heap[r]? = some o ∧ o.isCells = false) : TxRow w' v D base T := by
  obtain ⟨vs, h1, h2, h3⟩ := h
  exact ⟨vs, h1, own_kept h2 hg hr, fun i t ht => let ⟨A, c, e1, e2, e3⟩ := h3 i t ht; ⟨A, c, e1, e2.kept hg hr, e3⟩⟩
theorem boxed_kept {W W' : World} {row : Option Nat} {B : Nat} {t : TypeId} {v : Value} (h : Boxed W B t v) (hg : W.grownBy W' row) (hr : ∀ r, row = some r → ∃ o : Obj, W.heap[r]? = some o ∧ o.isCells = false) : Boxed W' B t v :=
  h.kept hg (fun e => by
    obtain ⟨o, ho, hc⟩ := hr B e.symm
    rw [show W.heap[B]? = _ from h] at ho
    cases ho
    cases hc)
/-- one row of one text, its block new -/
theorem TxRow.one {w : World} {A : Option Addr} {n c : Nat} {t : List UInt8} {D : List Nat} {base : Nat} (hn : t.length = n) (hr : Rd w A t) (hA : 0 < t.length → ∀ b off, A = some ⟨b, off, none⟩ → b ∉ D) (hnc : n ≤ c) (hb : base ≤ w.heap.size) :
    TxRow (w.alloc (.cells #[.slice A n c] 26)) (.slice (some ⟨w.heap.size, 0, none⟩) 1 1) D base [t] := by
  subst hn
  refine ⟨[.slice A t.length c], rfl, ⟨by simp, .inr ⟨w.heap.size, 1, #[.slice A t.length c], rfl, hb, heap_alloc_new w _, Nat.le_refl _, by unfold maxLen; omega, by simp, by simp⟩⟩, fun i t' ht => ?_⟩
  match i with
  | 0 =>
    simp at ht
    subst ht
    refine ⟨A, c, rfl, hr.fr ((Fr.refl [] w).alloc _) (by simp), fun hl b off hb' => ⟨hA hl b off hb', ?_⟩, hnc⟩
    subst hb'
    have := hr.lt hl
    intro e
    injection e with e
    simp only at e
    omega
  | i + 1 => simp at ht
theorem ex_min2 {P : Program} {a : Act} {o : Oper} {x y : Operand} {m d k : Nat} {w : World} (ho : o.op = .call { callee := .builtin .min, args := #[x, y], argTypes := #[3, 3] }) (hx : a.eval x = .int .i64 (m : Int)) (hy : a.eval y = .int .i64 (d : Int)) (hk : min m d = k) : (execOp a.eval o).run P w = .ok (.value (.int .i64 (k : Int))) w := by
  subst hk
  unfold execOp
  simp only [ho, resolve, invoke, builtin, Sem.run_bind, Sem.run_pure, Result.andThen_ok, List.map_toArray, List.map_cons, List.map_nil, hx, hy]
  simp only [go_sem]
  simp
  omega
theorem ex_cut (A : Option Addr) (m c k : Nat) (h : k ≤ m) : ∃ A', (∀ w, (Instr.sliceAt 26 (.slice A m c) (some (.int .i64 (k : Int))) none none).run Try.prog w = .ok (.slice A' (m - k) (c - k)) w) ∧ ∀ w b, b.length = m → m ≤ c → Rd w A b → Rd w A' (b.drop k) := by
  refine ⟨if c = k then A else A.map (·.add k), fun w => ?_, fun w b hb hc hr => hr.drop k c (by omega) (by omega)⟩
  rw [run_sliceAt_slice w 26 _ _ _ _ (by kernel_rfl), run_slice_l w 26 A m c (by kernel_rfl) .i64 _ (by omega) (by omega)]
  have hsz : ∀ w, (sizeOf (Try.prog.elem 26)).run Try.prog w = .ok 1 w := fun w => by kernel_rfl
  rw [hsz]
  simp only [Result.andThen, sliced, Int.toNat_natCast, Nat.mul_one]
theorem chunk_rd {w : World} {A : Option Addr} {r : List UInt8} {m : Nat} (hm : r.length = m) (h : Rd w A r) (j : Nat) : Rd w (A.map (·.add (64 * j))) ((r.drop (64 * j)).take 64) := by
  intro hl
  rw [List.length_take, List.length_drop] at hl
  obtain ⟨b, off, rfl, hc⟩ := h (by omega)
  refine ⟨b, off + 64 * j, by simp [Addr.add], fun i x hx => ?_⟩
  rw [List.getElem?_take] at hx
  split at hx
  · rw [List.getElem?_drop] at hx
    rw [Nat.add_assoc]
    exact hc _ x hx
  · cases hx
/-- between two rounds -/
def SecI (w : World) (z : Nat) (D : List Nat) (T : List (List UInt8)) (W : World) : Prop :=
  (∃ v, Boxed W (z + 1) 25 v ∧ TxRow W v D w.heap.size T ∧ ∀ k, v.ownBlock = some k → k < z + 1 ∨ z + 4 ≤ k) ∧ Below w.heap.size w W ∧ z + 4 ≤ W.heap.size
theorem secI_own (w : World) (z : Nat) (D : List Nat) (F : List Nat → List (List UInt8)) (B : Nat) (hB : w.heap.size ≤ B) : OwnFrom B (fun pre W => SecI w z D (F pre) W) := by
  rintro s X Y row ⟨⟨v, hv, ht, hk⟩, hb, hz⟩ hg hr
  refine ⟨⟨v, boxed_kept hv hg (fun r e => (hr r e).2), ht.kept hg (fun r e => (hr r e).2), hk⟩, ownFrom_below (β := Nat) (Nat.le_refl _) hB 0 X Y row hb hg hr, Nat.le_trans hz hg.size⟩
theorem keepsFrom_fr {S : List Nat} {B : Nat} {W W' : World} (hf : Fr S W W') (hS : ∀ x ∈ S, ∃ o : Obj, W.heap[x]? = some o ∧ o.isCells = true) : KeepsFrom B W W' :=
  ⟨hf.size, fun i o _ hi ho => (hf.block i (Array.getElem?_eq_some_iff.1 hi).1 (fun hm => by
    obtain ⟨o', h1, h2⟩ := hS i hm
    rw [hi] at h1
    cases h1
    rw [ho] at h2
    cases h2)).trans hi⟩
theorem TxRow.isCells {w : World} {v : Value} {D : List Nat} {base : Nat} {T : List (List UInt8)} (h : TxRow w v D base T) : ∀ k ∈ v.ownBlock.toList, ∃ o : Obj, w.heap[k]? = some o ∧ o.isCells = true := by
  obtain ⟨vs, _, h2, _⟩ := h
  intro k hk
  rcases h2.2 with ⟨rfl, _⟩ | ⟨g, cap, cur, rfl, _, hgb, _⟩
  · simp [Value.ownBlock] at hk
  · simp [Value.ownBlock] at hk
    subst hk
    exact ⟨_, hgb, rfl⟩
theorem TxRow.slice {w : World} {v : Value} {D : List Nat} {base : Nat} {T : List (List UInt8)} (h : TxRow w v D base T) : ∃ A n c, v = .slice A n c := by
  obtain ⟨vs, _, h2, _⟩ := h
  obtain ⟨A, c, h⟩ := own_slice h2
  exact ⟨A, _, c, h⟩
def noDefer (ops : Array Oper) : Bool := ops.all fun o => match o.op with | .defer _ => false | _ => true
theorem noDefer_spec {ops : Array Oper} (h : noDefer ops = true) (j : Nat) (o : Oper) (ho : ops[j]? = some o) (c : Call) : o.op ≠ .defer c := by
  intro e
  unfold noDefer at h
  rw [Array.all_eq_true] at h
  obtain ⟨hj, hoj⟩ := Array.getElem?_eq_some_iff.1 ho
  have := h j hj
  rw [hoj, e] at this
  cases this
theorem own_rn {w : World} {base m c : Nat} {l : List UInt8} {A : Option Addr} (h : w.ownsRow base 5 1 (.slice A m c) m (u8s l)) : Rd w A l := OwnN.rdd h
theorem sec_fin {w W w3 w4 w5 : World} {z B : Nat} {D : List Nat} {T T' : List (List UInt8)} {v v5 : Value} (hv : Boxed W (z + 1) 25 v) (ht : TxRow W v D w.heap.size T) (hk : ∀ k, v.ownBlock = some k → k < z + 1 ∨ z + 4 ≤ k) (hB : Below w.heap.size w W) (hzW : z + 4 ≤ W.heap.size) (hzw : w.heap.size ≤ z) (hD : z + 1 ∈ D)
    (f3 : Fr [] W.drew w3) (f4 : Fr [] w3 w4) (ht5 : TxRow w5 v5 D w.heap.size T') (f5 : Fr v.ownBlock.toList w4 w5) (hk5 : ∀ k, v5.ownBlock = some k → v.ownBlock = some k ∨ k = w4.heap.size) (hv5 : Blk w5 (z + 1) 25 #[v]) :
    KeepsFrom B W (w5.setRow (z + 1) #[v5]) ∧ Keep2 (z + 2) (z + 3) W (w5.setRow (z + 1) #[v5]) ∧ SecI w z D T' (w5.setRow (z + 1) #[v5]) := by
  have h34 : Fr [] W w4 := ((Fr.refl [] W).drew.trans f3).trans f4
  have s4 := h34.size
  have hnk : ∀ q, q = z + 1 ∨ q = z + 2 ∨ q = z + 3 → q ∉ v.ownBlock.toList := fun q hq hm => by
    have := hk q (by simpa using hm)
    omega
  have fS : Fr (v.ownBlock.toList ++ [z + 1]) W (w5.setRow (z + 1) #[v5]) :=
    ((h34.mono (T := v.ownBlock.toList ++ [z + 1]) (by simp)).trans' f5 (fun x hx => .inl (List.mem_append_left _ hx))).setRow (.inl (by simp)) _
  have hn5 : ∀ k, v5.ownBlock = some k → k < z + 1 ∨ z + 4 ≤ k := fun k h => by
    rcases hk5 k h with h | h
    · exact hk k h
    · omega
  refine ⟨keepsFrom_fr fS (fun x hx => ?_), keep2_fr fS (by omega) (by omega) (fun hm => ?_) (fun hm => ?_), ⟨v5, hv5.setRow_ _, ht5.fr ((Fr.refl [z + 1] w5).setRow (.inl (by simp)) _) (fun x hx => by simp at hx; subst hx; exact .inl hD) (fun k h hm => by
    have := hn5 k h
    simp at hm
    omega), hn5⟩, ?_, ?_⟩
  · rcases List.mem_append.1 hx with hx | hx
    · exact ht.isCells x hx
    · simp at hx; subst hx; exact ⟨_, hv, rfl⟩
  · rcases List.mem_append.1 hm with hm | hm
    · exact hnk _ (by omega) hm
    · simp at hm
  · rcases List.mem_append.1 hm with hm | hm
    · exact hnk _ (by omega) hm
    · simp at hm
  · have : Fr [] w (w5.setRow (z + 1) #[v5]) := (Fr.of_below hB).trans' fS (fun x hx => by
      rcases List.mem_append.1 hx with hx | hx
      · exact .inr (ht.lt x (by simpa using hx)).1
      · simp at hx; omega)
    exact this.below (Nat.le_refl _) (by simp)
  · have := fS.size
    omega
set_option maxRecDepth 100000 in
set_option maxHeartbeats 2000000 in
theorem sectors_calls (w : World) (D : List Nat) (hD : ∀ y ∈ D, y < w.heap.size) (sum : List UInt8) (hl : sum.length = 32) (n : Nat) (hn : n ≤ 1000000000) (A : Option Addr) (m c : Nat) (b : List UInt8) (hm : b.length = m) (hA : Rd w A b) (hmb : m ≤ 1000000) (hmc : m ≤ c) :
    Calls Try.prog 37 #[.int .i64 (n : Int), .slice A m c, .agg (u8s sum).toArray] w (fun e w' => ∃ v, e = .returned v ∧ TxRow w' v D w.heap.size (secT n b sum) ∧ Fr [] w w') := by
  obtain ⟨w1, hw1⟩ : ∃ W, w.alloc (.cells (u8s sum).toArray 41) = W := ⟨_, rfl⟩
  have f1 : Fr [] w w1 := hw1 ▸ (Fr.refl [] w).alloc _
  have hb1 : Blk w1 w.heap.size 41 (u8s sum).toArray := hw1 ▸ Blk.new w _ _
  have HD0 := Lib.hid (digF sum hl); have HL := Lib.hid hl
  have HFC := Lib.hid (first_calls w1 sum hl n hn A m c b hm (hA.fr f1 (by simp)) hmb hmc)
  have HCS := Lib.hid (rd_row hb1)
  have HAA := Lib.hid hA; have HM := Lib.hid hm; have HDD := Lib.hid hD; have F1 := Lib.hid f1
  obtain ⟨k, hk⟩ : ∃ k, min m 19 = k := ⟨_, rfl⟩
  obtain ⟨A2, hA2⟩ := ex_cut A m c k (by omega)
  have HA2 := Lib.hid hA2; have HK := Lib.hid hk; have HMC := Lib.hid hmc; have HMB := Lib.hid hmb
  refine (callsIn_wide (n := 3)).1 ?_
  refine callsIn_of_wp_marks Try.func37 rfl trivial ?_ rfl
  simp only [Try.ntmps37, List.size_toArray, List.length_cons, List.length_nil, Nat.reduceAdd, Nat.reduceSub, Array.replicate_succ, Array.replicate_zero, List.push_toArray, List.append_toArray, List.nil_append, List.cons_append]
  refine wpIn_wide.2 ?_
  clear hb1 f1 hn hm hA hl hD hA2 hk hmc hmb
  go_wp2_with (first
    | (refine box_agg rfl 41 (.tmp 2) rfl (u8s sum).toArray rfl ?_; rw [hw1])
    | (refine wpList_wanted (v := .agg (u8s sum).toArray) (by kernel_rfl) (exec_load_agg (ty := 41) (x := .tmp 5) rfl w.heap.size 0 rfl (u8s sum) _ HCS.out Try.underlying41 rfl HD0.out.2.1) ?_)
    | (go_at_call 50; (refine HFC.out.mono ?_); rintro e w2 ⟨A1, c1, rfl, ho2, f2⟩; have HO2 := Lib.hid ho2; have F2 := Lib.hid f2; clear ho2 f2)
    | (refine wpList_wanted (v := .int .i64 (k : Int)) (by kernel_rfl) (ex_min2 (x := .tmp 16) (d := 19) rfl rfl rfl HK.out) ?_)
    | (refine wpList_wanted (v := .slice A2 (m - k) (c - k)) (by kernel_rfl) (ex_slice (t := 26) (x := .tmp 14) (y := .tmp 17) (u := .slice A m c) (i := .int .i64 (k : Int)) rfl (by kernel_rfl) (by kernel_rfl) (HA2.out.1 _)) ?_)
    | (go_at_call 53; (refine (chunk_in _ _ _ _).mono ?_); rintro e w6 ⟨rfl, rfl⟩))
  obtain ⟨z, hz⟩ : ∃ z, w2.heap.size = z := ⟨_, rfl⟩
  have hzw : w.heap.size ≤ z := hz ▸ (F1.out.trans F2.out).size
  obtain ⟨W3, hW3⟩ : ∃ W, w2.alloc (.cells #[.slice A1 64 c1] 26) = W := ⟨_, rfl⟩
  have f3 : Fr [] w2 W3 := hW3 ▸ (Fr.refl [] w2).alloc _
  have s3 : W3.heap.size = z + 1 := by rw [← hW3, World.size_alloc, hz]
  have t3 : TxRow W3 (.slice (some ⟨z, 0, none⟩) 1 1) ((z + 1) :: D) w.heap.size [firstB n b sum] := by
    have h64 := firstB_length n b sum HL.out
    have := TxRow.one (w := w2) (D := (z + 1) :: D) (base := w.heap.size) (c := c1) h64 (own_rn HO2.out) (fun _ bb off hb => fun hm => by
      have h1 := own_ge HO2.out bb off hb
      have h2 := F1.out.size
      have h3 := HO2.out.lt bb (by subst hb; rfl)
      rcases List.mem_cons.1 hm with rfl | hm
      · omega
      · have := HDD.out bb hm
        omega) (own_le HO2.out) (F1.out.trans F2.out).size
    rw [hW3, hz] at this
    exact this
  obtain ⟨W4, hW4⟩ : ∃ W, W3.alloc (.cells #[.slice (some ⟨z, 0, none⟩) 1 1] 25) = W := ⟨_, rfl⟩
  have f4 : Fr [] W3 W4 := hW4 ▸ (Fr.refl [] W3).alloc _
  have s4 : W4.heap.size = z + 2 := by rw [← hW4, World.size_alloc, s3]
  have b4 : Boxed W4 (z + 1) 25 (.slice (some ⟨z, 0, none⟩) 1 1) := by
    have := Boxed.new W3 25 (.slice (some ⟨z, 0, none⟩) 1 1)
    rw [hW4, s3] at this
    exact this
  have t4 := t3.frD f4
  obtain ⟨W5, hW5⟩ : ∃ W, W4.alloc (.cells #[.slice A2 (m - k) (c - k)] 26) = W := ⟨_, rfl⟩
  have f5 : Fr [] W4 W5 := hW5 ▸ (Fr.refl [] W4).alloc _
  have s5 : W5.heap.size = z + 3 := by rw [← hW5, World.size_alloc, s4]
  have b5 : Boxed W5 (z + 2) 26 (.slice A2 (m - k) (c - k)) := by
    have := Boxed.new W4 26 (.slice A2 (m - k) (c - k))
    rw [hW5, s4] at this
    exact this
  obtain ⟨W6, hW6⟩ : ∃ W, W5.alloc (.cells #[.int .i64 64] 3) = W := ⟨_, rfl⟩
  have f6 : Fr [] W5 W6 := hW6 ▸ (Fr.refl [] W5).alloc _
  have s6 : W6.heap.size = z + 4 := by rw [← hW6, World.size_alloc, s5]
  have b6 : Boxed W6 (z + 3) 3 (.int .i64 64) := by
    have := Boxed.new W5 3 (.int .i64 64)
    rw [hW6, s5] at this
    exact this
  have b5' : Boxed W6 (z + 2) 26 (.slice A2 (m - k) (c - k)) := hW6 ▸ b5.alloc _
  have b4' : Boxed W6 (z + 1) 25 (.slice (some ⟨z, 0, none⟩) 1 1) := hW6 ▸ (hW5 ▸ b4.alloc _ : Boxed W5 _ _ _).alloc _
  have F6 : Fr [] w W6 := (((F1.out.trans F2.out).trans f3).trans f4).trans (f5.trans f6)
  have B6 : Below w.heap.size w W6 := F6.below (Nat.le_refl _) (by simp)
  have h0 : SecI w z ((z + 1) :: D) (firstB n b sum :: partsT (b.drop 19) []) W6 := ⟨⟨_, b4', (t4.frD (f5.trans f6)), fun k hk => by simp [Value.ownBlock] at hk; omega⟩, B6, by omega⟩
  rw [hz, hW3, hW4, hW5, hW6]
  have hr := HA2.out.2 w b HM.out HMC.out HAA.out
  have hrl : (b.drop k).length = m - k := by rw [List.length_drop, HM.out]
  have hdk : b.drop k = b.drop 19 := by
    rcases Nat.lt_or_ge m 19 with h | h
    · rw [List.drop_of_length_le (by have := HK.out; have := HM.out; omega), List.drop_of_length_le (by have := HM.out; omega)]
    · congr 1; have := HK.out; omega
  rw [hdk] at hr hrl
  refine (wpIn_wide (n := 3)).1 (wpIn_rangeFunc_ownG rfl (by decide) (gf := 67) (lb := #[.pointer (some ⟨z + 2, 0, none⟩), .pointer (some ⟨z + 3, 0, none⟩)]) rfl trivial (enters_of Try.func67 (by kernel_rfl) rfl)
    (chunk_stops (3 - 1) (z + 2) (z + 3) A2 (m - k) (c - k) (by have := HMC.out; omega) (by have := HMB.out; omega) W6 (by omega) (by omega) b5'.cell b6.cell) keep2_t (keep2_b (by omega) (by omega)) (Below.refl _ _) (fun _ => rfl)
    (fun pre W => SecI w z ((z + 1) :: D) (firstB n b sum :: partsT (b.drop 19) pre) W) (fun _ _ _ => False) (secI_own w z ((z + 1) :: D) (fun pre => firstB n b sum :: partsT (b.drop 19) pre) _ (by omega)) (fun _ _ _ _ _ hs _ _ => hs) h0
    (fun x => { tmps := #[.int .i64 (n : Int), .slice A m c, .agg (u8s sum).toArray, undef, undef, .pointer (some ⟨w.heap.size, 0, none⟩), .slice none 0 0, .pointer (some ⟨z + 1, 0, none⟩), chunkV A2 (m - k) x, .int .i64 (n : Int), .slice A m c, .agg (u8s sum).toArray, .slice A1 64 c1, .slice (some ⟨z, 0, none⟩) 1 1, .slice A m c, .slice A m c, .int .i64 (m : Int), .int .i64 (k : Int), .slice A2 (m - k) (c - k), .func (.func 67) #[] #[.pointer (some ⟨z + 2, 0, none⟩), .pointer (some ⟨z + 3, 0, none⟩)], chunkV A2 (m - k) x, undef, undef, undef, undef, undef, undef], defers := [] }) ?assign ?body ?done ?stop)
  case assign =>
    intro l x W K hK
    gi_wp2
    exact hK
  case body =>
    rintro l pre x W ⟨⟨v, hv, ht, hk⟩, hB, hzW⟩ hlt
    have HPT := Lib.hid (partT_length (b.drop 19) x)
    obtain ⟨pt, hpt⟩ : ∃ pt, partT (b.drop 19) x = pt := ⟨_, rfl⟩
    rw [hpt] at HPT
    have hrW := hr.fr (Fr.of_below (S := []) hB) (by simp)
    have HFL := Lib.hid (fun W0 (h : Fr [] W W0) => ((filled_calls W0 _ (chunkN (m - k) x) (chunkN (m - k) x) (((b.drop 19).drop (64 * x)).take 64) (by rw [List.length_take, List.length_drop, hrl]; rfl) ((chunk_rd hrl hrW x).fr h (by simp)) 64 (by unfold chunkN; omega) (by omega)).mono fun e w' h => (hpt ▸ OwnBytes.toN (partT_length (b.drop 19) x) h) : Calls Try.prog 54 #[chunkV A2 (m - k) x, .int .i64 ((64 : Nat) : Int)] W0 (OwnRN W0 64 pt)))
    have HTL := Lib.hid (show (firstB n b sum :: partsT (b.drop 19) pre).length ≤ 1000000 by
      have := HMB.out
      simp only [List.length_cons, partsT, List.length_map]
      omega)
    have HNB : ∀ W9 T9, TxRow W9 v ((z + 1) :: D) w.heap.size T9 → z + 1 ∉ v.ownBlock.toList := fun _ _ _ hm => by
      have := hk (z + 1) (by simpa using hm)
      omega
    have HFAR : ∀ w3 A3 c3, World.ownsRow w3 W.drew.heap.size 5 1 (.slice A3 64 c3) 64 (u8s pt) → 0 < pt.length → ∀ bb off, A3 = some ⟨bb, off, none⟩ → bb ∉ (z + 1) :: D ∧ some bb ≠ v.ownBlock := fun w3 A3 c3 h3 _ bb off hb => by
      have h1 : W.heap.size ≤ bb := own_ge h3 bb off hb
      refine ⟨fun hm => ?_, fun e => ?_⟩
      · rcases List.mem_cons.1 hm with rfl | hm
        · omega
        · have := HDD.out bb hm
          have := hB.size
          omega
      · have := (ht.lt bb e.symm).2
        omega
    have hFIN := fun w3 w4 w5 v5 f3 f4 ht5 f5 hk5 hv5 => @sec_fin w W w3 w4 w5 z W6.heap.size ((z + 1) :: D) _ (firstB n b sum :: partsT (b.drop 19) pre ++ [pt]) v v5 hv ht hk hB hzW hzw (by simp) f3 f4 ht5 f5 hk5 hv5
    have hps := partsT_snoc (b.drop 19) pre x
    rw [hpt] at hps
    gi_wp2
    refine region_in_round (OldW w) (by kernel_rfl) (noDefer_spec (by kernel_rfl)) (by rintro ⟨_, _, h⟩; exact h) ?_
    have hS0 : OldW w W.drew := Fr.drew (Fr.of_below hB)
    refine sqo_take (i := 1) (v := (chunkV A2 (m - k) x)) (d := 22) rfl (by kernel_rfl) (by kernel_rfl) (by kernel_rfl) (by kernel_rfl) (by kernel_rfl) (fun _ _ _ h => h) ?_ (by assumption) ?_
    · intro w9 h9; kernel_rfl
    try simp only [Act.put, List.setIfInBounds_toArray, List.set_cons_zero, List.set_cons_succ]
    refine sqo_two (i := 0) (j := 2) rfl (by kernel_rfl) rfl (by kernel_rfl) (by kernel_rfl) ?_ ?_
    · have hr0 := fun (a₀ : Act) (o₀ : Oper) (K₀ : Act → World → Prop) (Q₀ : Exit → Act → World → Prop) => @sq_val Try.prog Q₀ a₀ o₀ W.drew K₀ v W.drew 21
      refine hr0 _ _ _ _ ?_ ?_ ?_
      · kernel_rfl
      · exact exec_load_one rfl (by kernel_rfl) v (.slice 26) W.drew hv.cell Try.underlying25 rfl
      clear hr0
      refine ⟨hS0, ?_⟩
      try simp only [Act.put, List.setIfInBounds_toArray, List.set_cons_zero, List.set_cons_succ]
      refine sqo_only (i := 2) rfl (by kernel_rfl) (by kernel_rfl) ?_
      have hr2 := fun (a₀ : Act) (o₀ : Oper) (K₀ : Act → World → Prop) (Q₀ : Exit → Act → World → Prop) => @sq_call Try.prog Q₀ a₀ o₀ W.drew K₀ (OwnRN W.drew 64 pt) 54 #[chunkV A2 (m - k) x, .int .i64 ((64 : Nat) : Int)] 23
      refine hr2 _ _ _ _ ?_ ?_ ?_ ?_
      · kernel_rfl
      · kernel_rfl
      · exact (HFL.out W.drew (Fr.refl [] W).drew)
      rintro e w3 ⟨A3, c3, rfl, ho3, f3⟩
      have HO3 := Lib.hid ho3
      have F3 := Lib.hid f3
      have hS1 := OldW.step hS0 f3
      have HT3 := Lib.hid ((ht.frD (Fr.refl [] W).drew).frD f3)
      have HV3 := Lib.hid (show Blk w3 (z + 1) 25 #[v] from (show Blk W.drew (z + 1) 25 #[v] from hv).fr f3 (by simp))
      clear ho3 f3
      refine ⟨_, rfl, hS1, ?_⟩
      clear hr2
      try simp only [Act.put, List.setIfInBounds_toArray, List.set_cons_zero, List.set_cons_succ]
      refine sqo_only (i := 3) rfl (by kernel_rfl) (by kernel_rfl) ?_
      have hr3 := fun (a₀ : Act) (o₀ : Oper) (K₀ : Act → World → Prop) (Q₀ : Exit → Act → World → Prop) => @sq_val Try.prog Q₀ a₀ o₀ w3 K₀ (.slice (some ⟨w3.heap.size, 0, none⟩) 1 1) (w3.alloc (.cells #[.slice A3 64 c3] 26)) 24
      refine hr3 _ _ _ _ ?_ ?_ ?_
      · kernel_rfl
      · kernel_rfl
      clear hr3
      refine ⟨(OldW.step hS1 ((Fr.refl [] w3).alloc _)), ?_⟩
      try simp only [Act.put, List.setIfInBounds_toArray, List.set_cons_zero, List.set_cons_succ]
      obtain ⟨y, hy⟩ : ∃ y, w3.heap.size = y := ⟨_, rfl⟩
      obtain ⟨w4, hw4⟩ : ∃ W, w3.alloc (.cells #[.slice A3 64 c3] 26) = W := ⟨_, rfl⟩
      rw [hw4, hy]
      have f4 : Fr [] w3 w4 := hw4 ▸ (Fr.refl [] w3).alloc _
      have HB4 := Lib.hid (show Blk w4 y 26 #[.slice A3 64 c3] from hw4 ▸ hy ▸ Blk.new w3 _ _)
      have HT4 := Lib.hid (HT3.out.frD f4)
      have HV4 := Lib.hid (HV3.out.fr f4 (by simp))
      have hS2 := OldW.step hS1 f4
      refine sqo_only (i := 4) rfl (by kernel_rfl) (by kernel_rfl) ?_
      have hr4 := fun (a₀ : Act) (o₀ : Oper) (K₀ : Act → World → Prop) (Q₀ : Exit → Act → World → Prop) hgd hd ho hs hx => @sq_appTx1 Q₀ o₀ a₀ w4 K₀ hgd (.tmp 21) (.tmp 24) 25 hd ho w.heap.size v ((z + 1) :: D) (firstB n b sum :: partsT (b.drop 19) pre) hs HT4.out pt A3 64 c3 y 1 HPT.out hx HB4.out ((own_rn HO3.out).fr f4 (by simp)) (HFAR w3 A3 c3 HO3.out) (own_le HO3.out) HTL.out hS2.size
      refine hr4 _ _ _ _ ?_ ?_ ?_ ?_ ?_ ?_
      · kernel_rfl
      · kernel_rfl
      · kernel_rfl
      · kernel_rfl
      · kernel_rfl
      intro v5 w5 ht5 f5 hk5
      clear hr4
      obtain ⟨A5, n5, c5, rfl⟩ := ht5.slice
      have hS3 : OldW w w5 := Fr.trans' hS2 f5 (fun q hq => .inr (HT4.out.lt q (by simpa using hq)).1)
      have HV5 := Lib.hid (HV4.out.fr f5 (HNB w4 _ HT4.out))
      refine ⟨hS3, ?_⟩
      try simp only [Act.put, List.setIfInBounds_toArray, List.set_cons_zero, List.set_cons_succ]
      refine sqo_only (i := 5) rfl (by kernel_rfl) (by kernel_rfl) ?_
      have hr5 := fun (a₀ : Act) (o₀ : Oper) (K₀ : Act → World → Prop) (Q₀ : Exit → Act → World → Prop) => @sq_store1 Try.prog Q₀ a₀ o₀ w5 K₀ 25 (.tmp 7) (.tmp 25) (z + 1) 0 (.slice A5 n5 c5) [v] [.slice A5 n5 c5] 25
      refine hr5 _ _ _ _ ?_ ?_ ?_ ?_ ?_ ?_ ?_ ?_ ?_ ?_ ?_
      · kernel_rfl
      · kernel_rfl
      · kernel_rfl
      · kernel_rfl
      · rfl
      · rfl
      · exact HV5.out
      · simp
      · rfl
      · exact (by kernel_rfl)
      clear hr5
      refine ⟨(Fr.setRow hS3 (.inr (by omega)) _), ?_⟩
      try simp only [Act.put, List.setIfInBounds_toArray, List.set_cons_zero, List.set_cons_succ]
      refine wpAnyH_done (by kernel_rfl) ?_ _
      have hfin := hFIN w3 w4 w5 (.slice A5 n5 c5) F3.out f4 ht5 f5 hk5 HV5.out
      rw [List.cons_append, ← hps] at hfin
      exact hfin
    · have hr2 := fun (a₀ : Act) (o₀ : Oper) (K₀ : Act → World → Prop) (Q₀ : Exit → Act → World → Prop) => @sq_call Try.prog Q₀ a₀ o₀ W.drew K₀ (OwnRN W.drew 64 pt) 54 #[chunkV A2 (m - k) x, .int .i64 ((64 : Nat) : Int)] 23
      refine hr2 _ _ _ _ ?_ ?_ ?_ ?_
      · kernel_rfl
      · kernel_rfl
      · exact (HFL.out W.drew (Fr.refl [] W).drew)
      rintro e w3 ⟨A3, c3, rfl, ho3, f3⟩
      have HO3 := Lib.hid ho3
      have F3 := Lib.hid f3
      have hS1 := OldW.step hS0 f3
      have HT3 := Lib.hid ((ht.frD (Fr.refl [] W).drew).frD f3)
      have HV3 := Lib.hid (show Blk w3 (z + 1) 25 #[v] from (show Blk W.drew (z + 1) 25 #[v] from hv).fr f3 (by simp))
      clear ho3 f3
      refine ⟨_, rfl, hS1, ?_⟩
      clear hr2
      try simp only [Act.put, List.setIfInBounds_toArray, List.set_cons_zero, List.set_cons_succ]
      refine sqo_two (i := 0) (j := 3) rfl (by kernel_rfl) rfl (by kernel_rfl) (by kernel_rfl) ?_ ?_
      · have hr0 := fun (a₀ : Act) (o₀ : Oper) (K₀ : Act → World → Prop) (Q₀ : Exit → Act → World → Prop) => @sq_val Try.prog Q₀ a₀ o₀ w3 K₀ v w3 21
        refine hr0 _ _ _ _ ?_ ?_ ?_
        · kernel_rfl
        · exact exec_load_one rfl (by kernel_rfl) v (.slice 26) w3 (HV3.out.cell 0) Try.underlying25 rfl
        clear hr0
        refine ⟨hS1, ?_⟩
        try simp only [Act.put, List.setIfInBounds_toArray, List.set_cons_zero, List.set_cons_succ]
        refine sqo_only (i := 3) rfl (by kernel_rfl) (by kernel_rfl) ?_
        have hr3 := fun (a₀ : Act) (o₀ : Oper) (K₀ : Act → World → Prop) (Q₀ : Exit → Act → World → Prop) => @sq_val Try.prog Q₀ a₀ o₀ w3 K₀ (.slice (some ⟨w3.heap.size, 0, none⟩) 1 1) (w3.alloc (.cells #[.slice A3 64 c3] 26)) 24
        refine hr3 _ _ _ _ ?_ ?_ ?_
        · kernel_rfl
        · kernel_rfl
        clear hr3
        refine ⟨(OldW.step hS1 ((Fr.refl [] w3).alloc _)), ?_⟩
        try simp only [Act.put, List.setIfInBounds_toArray, List.set_cons_zero, List.set_cons_succ]
        obtain ⟨y, hy⟩ : ∃ y, w3.heap.size = y := ⟨_, rfl⟩
        obtain ⟨w4, hw4⟩ : ∃ W, w3.alloc (.cells #[.slice A3 64 c3] 26) = W := ⟨_, rfl⟩
        rw [hw4, hy]
        have f4 : Fr [] w3 w4 := hw4 ▸ (Fr.refl [] w3).alloc _
        have HB4 := Lib.hid (show Blk w4 y 26 #[.slice A3 64 c3] from hw4 ▸ hy ▸ Blk.new w3 _ _)
        have HT4 := Lib.hid (HT3.out.frD f4)
        have HV4 := Lib.hid (HV3.out.fr f4 (by simp))
        have hS2 := OldW.step hS1 f4
        refine sqo_only (i := 4) rfl (by kernel_rfl) (by kernel_rfl) ?_
        have hr4 := fun (a₀ : Act) (o₀ : Oper) (K₀ : Act → World → Prop) (Q₀ : Exit → Act → World → Prop) hgd hd ho hs hx => @sq_appTx1 Q₀ o₀ a₀ w4 K₀ hgd (.tmp 21) (.tmp 24) 25 hd ho w.heap.size v ((z + 1) :: D) (firstB n b sum :: partsT (b.drop 19) pre) hs HT4.out pt A3 64 c3 y 1 HPT.out hx HB4.out ((own_rn HO3.out).fr f4 (by simp)) (HFAR w3 A3 c3 HO3.out) (own_le HO3.out) HTL.out hS2.size
        refine hr4 _ _ _ _ ?_ ?_ ?_ ?_ ?_ ?_
        · kernel_rfl
        · kernel_rfl
        · kernel_rfl
        · kernel_rfl
        · kernel_rfl
        intro v5 w5 ht5 f5 hk5
        clear hr4
        obtain ⟨A5, n5, c5, rfl⟩ := ht5.slice
        have hS3 : OldW w w5 := Fr.trans' hS2 f5 (fun q hq => .inr (HT4.out.lt q (by simpa using hq)).1)
        have HV5 := Lib.hid (HV4.out.fr f5 (HNB w4 _ HT4.out))
        refine ⟨hS3, ?_⟩
        try simp only [Act.put, List.setIfInBounds_toArray, List.set_cons_zero, List.set_cons_succ]
        refine sqo_only (i := 5) rfl (by kernel_rfl) (by kernel_rfl) ?_
        have hr5 := fun (a₀ : Act) (o₀ : Oper) (K₀ : Act → World → Prop) (Q₀ : Exit → Act → World → Prop) => @sq_store1 Try.prog Q₀ a₀ o₀ w5 K₀ 25 (.tmp 7) (.tmp 25) (z + 1) 0 (.slice A5 n5 c5) [v] [.slice A5 n5 c5] 25
        refine hr5 _ _ _ _ ?_ ?_ ?_ ?_ ?_ ?_ ?_ ?_ ?_ ?_ ?_
        · kernel_rfl
        · kernel_rfl
        · kernel_rfl
        · kernel_rfl
        · rfl
        · rfl
        · exact HV5.out
        · simp
        · rfl
        · exact (by kernel_rfl)
        clear hr5
        refine ⟨(Fr.setRow hS3 (.inr (by omega)) _), ?_⟩
        try simp only [Act.put, List.setIfInBounds_toArray, List.set_cons_zero, List.set_cons_succ]
        refine wpAnyH_done (by kernel_rfl) ?_ _
        have hfin := hFIN w3 w4 w5 (.slice A5 n5 c5) F3.out f4 ht5 f5 hk5 HV5.out
        rw [List.cons_append, ← hps] at hfin
        exact hfin
      · have hr3 := fun (a₀ : Act) (o₀ : Oper) (K₀ : Act → World → Prop) (Q₀ : Exit → Act → World → Prop) => @sq_val Try.prog Q₀ a₀ o₀ w3 K₀ (.slice (some ⟨w3.heap.size, 0, none⟩) 1 1) (w3.alloc (.cells #[.slice A3 64 c3] 26)) 24
        refine hr3 _ _ _ _ ?_ ?_ ?_
        · kernel_rfl
        · kernel_rfl
        clear hr3
        refine ⟨(OldW.step hS1 ((Fr.refl [] w3).alloc _)), ?_⟩
        try simp only [Act.put, List.setIfInBounds_toArray, List.set_cons_zero, List.set_cons_succ]
        obtain ⟨y, hy⟩ : ∃ y, w3.heap.size = y := ⟨_, rfl⟩
        obtain ⟨w4, hw4⟩ : ∃ W, w3.alloc (.cells #[.slice A3 64 c3] 26) = W := ⟨_, rfl⟩
        rw [hw4, hy]
        have f4 : Fr [] w3 w4 := hw4 ▸ (Fr.refl [] w3).alloc _
        have HB4 := Lib.hid (show Blk w4 y 26 #[.slice A3 64 c3] from hw4 ▸ hy ▸ Blk.new w3 _ _)
        have HT4 := Lib.hid (HT3.out.frD f4)
        have HV4 := Lib.hid (HV3.out.fr f4 (by simp))
        have hS2 := OldW.step hS1 f4
        refine sqo_only (i := 0) rfl (by kernel_rfl) (by kernel_rfl) ?_
        have hr0 := fun (a₀ : Act) (o₀ : Oper) (K₀ : Act → World → Prop) (Q₀ : Exit → Act → World → Prop) => @sq_val Try.prog Q₀ a₀ o₀ w4 K₀ v w4 21
        refine hr0 _ _ _ _ ?_ ?_ ?_
        · kernel_rfl
        · exact exec_load_one rfl (by kernel_rfl) v (.slice 26) w4 (HV4.out.cell 0) Try.underlying25 rfl
        clear hr0
        refine ⟨hS2, ?_⟩
        try simp only [Act.put, List.setIfInBounds_toArray, List.set_cons_zero, List.set_cons_succ]
        refine sqo_only (i := 4) rfl (by kernel_rfl) (by kernel_rfl) ?_
        have hr4 := fun (a₀ : Act) (o₀ : Oper) (K₀ : Act → World → Prop) (Q₀ : Exit → Act → World → Prop) hgd hd ho hs hx => @sq_appTx1 Q₀ o₀ a₀ w4 K₀ hgd (.tmp 21) (.tmp 24) 25 hd ho w.heap.size v ((z + 1) :: D) (firstB n b sum :: partsT (b.drop 19) pre) hs HT4.out pt A3 64 c3 y 1 HPT.out hx HB4.out ((own_rn HO3.out).fr f4 (by simp)) (HFAR w3 A3 c3 HO3.out) (own_le HO3.out) HTL.out hS2.size
        refine hr4 _ _ _ _ ?_ ?_ ?_ ?_ ?_ ?_
        · kernel_rfl
        · kernel_rfl
        · kernel_rfl
        · kernel_rfl
        · kernel_rfl
        intro v5 w5 ht5 f5 hk5
        clear hr4
        obtain ⟨A5, n5, c5, rfl⟩ := ht5.slice
        have hS3 : OldW w w5 := Fr.trans' hS2 f5 (fun q hq => .inr (HT4.out.lt q (by simpa using hq)).1)
        have HV5 := Lib.hid (HV4.out.fr f5 (HNB w4 _ HT4.out))
        refine ⟨hS3, ?_⟩
        try simp only [Act.put, List.setIfInBounds_toArray, List.set_cons_zero, List.set_cons_succ]
        refine sqo_only (i := 5) rfl (by kernel_rfl) (by kernel_rfl) ?_
        have hr5 := fun (a₀ : Act) (o₀ : Oper) (K₀ : Act → World → Prop) (Q₀ : Exit → Act → World → Prop) => @sq_store1 Try.prog Q₀ a₀ o₀ w5 K₀ 25 (.tmp 7) (.tmp 25) (z + 1) 0 (.slice A5 n5 c5) [v] [.slice A5 n5 c5] 25
        refine hr5 _ _ _ _ ?_ ?_ ?_ ?_ ?_ ?_ ?_ ?_ ?_ ?_ ?_
        · kernel_rfl
        · kernel_rfl
        · kernel_rfl
        · kernel_rfl
        · rfl
        · rfl
        · exact HV5.out
        · simp
        · rfl
        · exact (by kernel_rfl)
        clear hr5
        refine ⟨(Fr.setRow hS3 (.inr (by omega)) _), ?_⟩
        try simp only [Act.put, List.setIfInBounds_toArray, List.set_cons_zero, List.set_cons_succ]
        refine wpAnyH_done (by kernel_rfl) ?_ _
        have hfin := hFIN w3 w4 w5 (.slice A5 n5 c5) F3.out f4 ht5 f5 hk5 HV5.out
        rw [List.cons_append, ← hps] at hfin
        exact hfin
  case done =>
    rintro D' ys W hD' rfl ⟨⟨v, hv, ht, hk⟩, hB, hzW⟩ hK
    have hc := hv.cell
    go_wp2_with fail
    refine ⟨by simp, .inl ⟨_, _, rfl, run_takeDeferred hK, ?_⟩⟩
    refine ⟨_, results_tmp rfl _ _ _, v, rfl, ?_, Fr.of_below (hB.trans (belowK_b (w := w) (Nat.le_refl _) W D' _ _ (by omega) hK rfl rfl))⟩
    have h1 := (ht.kept (grownBy_putObj' W D' (.deferred none)) (fun r e => by cases e; exact ⟨_, hK, rfl⟩)).less (Nat.le_refl _) (D := D) (fun y hy => List.mem_cons_of_mem _ hy)
    have h2 : secT n b sum = firstB n b sum :: partsT (b.drop 19) (List.range ((m - k + 63) / 64)) := by
      unfold secT
      rw [HM.out, show m - k = m - 19 by have := HK.out; omega]
    rw [h2]
    exact h1
  case stop =>
    rintro D' c pre W _ _ h _
    exact h.elim
end Go.Proofs.Ytmmjihkcofgmmaa

/- The log: a record is taken. -/
namespace Go.Proofs.Ytmmjihkcofgmmaa
open Go.RowKit
set_option linter.unusedVariables false

section
variable {P : Program} {Q : Exit → Act → World → Prop} {ops : Array Oper} {md : Region.Mode} {S : World → Prop}
theorem sqs_two {i j : Nat} {o o' : Oper} {fuel : Nat} {listed : Array Bool} {a : Act} {w : World} (hi : ops[i]? = some o) (hg : Region.wanted o (yielded ops a.tmps) = true) (hj : ops[j]? = some o') (hg' : Region.wanted o' (yielded ops a.tmps) = true)
    (hr : Region.ready md ops listed = [i, j])
    (h : Oper.wp P o a w (fun a' w' => S w' ∧ wpAnyH P md ops Q S fuel (listed.setIfInBounds i true) a' w') Q)
    (h' : Oper.wp P o' a w (fun a' w' => S w' ∧ wpAnyH P md ops Q S fuel (listed.setIfInBounds j true) a' w') Q) : wpAnyH P md ops Q S (fuel + 1) listed a w := by
  refine wpAnyH_all hr (by simp) fun x hx => ?_
  simp only [List.mem_cons, List.not_mem_nil, or_false] at hx
  rcases hx with rfl | rfl
  · unfold wpOp
    rw [hi]
    simp only [hg, if_true]
    exact .inl h
  · unfold wpOp
    rw [hj]
    simp only [hg', if_true]
    exact .inl h'
end
theorem logC_setk (p : Nat) (lv : Value) (k k' : Int) (last : List UInt8) (br : Bool) : splice (logC p lv k last br) 2 [.int .i64 k'] = logC p lv k' last br := rfl
theorem logC_setl (p : Nat) (lv lv' : Value) (k : Int) (last : List UInt8) (br : Bool) : splice (logC p lv k last br) 1 [lv'] = logC p lv' k last br := rfl
theorem logC_length (p : Nat) (lv : Value) (k : Int) (last : List UInt8) (br : Bool) (h : last.length = 32) : (logC p lv k last br).length = 36 := by simp [logC, h]
theorem logC_sets (p : Nat) (lv : Value) (k : Int) (last last' : List UInt8) (br : Bool) (h : last.length = 32) (h' : last'.length = 32) : splice (logC p lv k last br) 3 (u8s last') = logC p lv k last' br := by
  unfold splice logC
  simp only [List.take_succ_cons, List.take_zero, u8s_length, h', List.drop_succ_cons, List.drop_zero]
  rw [show 3 + 29 = 32 from rfl, List.drop_append_of_le_length (by simp [h]), List.drop_of_length_le (by simp [h])]
  simp
theorem logC_setb (p : Nat) (lv : Value) (k : Int) (last : List UInt8) (br br' : Bool) (h : last.length = 32) : splice (logC p lv k last br) 35 [.bool br'] = logC p lv k last br' := by
  unfold splice logC
  rw [show 35 = 32 + 1 + 1 + 1 by omega]
  simp only [List.take_succ_cons]
  rw [List.take_append_of_le_length (by simp [h]), List.take_of_length_le (by simp [h]), List.drop_of_length_le (by simp [h])]
  simp
theorem LogB.drew {w : World} {x p : Nat} {lv : Value} {k : Int} {last : List UInt8} {br : Bool} (h : LogB w x p lv k last br) : LogB w.drew x p lv k last br := h
/-- what takes a record leaves behind -/
def TakeP (w : World) (x p : Nat) (v : Value) (k : Nat) (sum : List UInt8) (br : Bool) (D : List Nat) (base : Nat) (T : List (List UInt8)) (e : Ending) (w' : World) : Prop :=
  ∃ u v', e = .returned u ∧ LogB w' x p v' (k : Int) sum br ∧ TxRow w' v' D base T ∧ Fr (x :: v.ownBlock.toList) w w' ∧ (∀ q, v'.ownBlock = some q → v.ownBlock = some q ∨ w.heap.size ≤ q)
theorem take_fin {w w1 w2 w3 w4 w5 w6 w7 : World} {x p : Nat} {v v' : Value} {k : Int} {last sum : List UInt8} {br : Bool} {D : List Nat} {base : Nat} {T' : List (List UInt8)} (hx : x ∈ D) (hne : v.ownBlock ≠ some x) (hxw : x < w.heap.size)
    (f1 : Fr [] w w1) (f2 : Fr [x] w1 w2) (f3 : Fr [] w2 w3) (f4 : Fr [] w3 w4) (f5 : Fr v.ownBlock.toList w4 w5) (ht : TxRow w5 v' D base T') (hk : ∀ q, v'.ownBlock = some q → v.ownBlock = some q ∨ q = w4.heap.size)
    (hl : LogB w5 x p v k last br) (hl1 : last.length = 32) (hl2 : sum.length = 32) (h6 : w6 = w5.setRow x (logC p v' k last br).toArray) (h7 : w7 = w6.setRow x (logC p v' k sum br).toArray) :
    LogB w7 x p v' k sum br ∧ TxRow w7 v' D base T' ∧ Fr (x :: v.ownBlock.toList) w w7 ∧ (∀ q, v'.ownBlock = some q → v.ownBlock = some q ∨ w.heap.size ≤ q) := by
  subst h6 h7
  have s14 : w.heap.size ≤ w4.heap.size := Nat.le_trans f1.size (Nat.le_trans f2.size (Nat.le_trans f3.size f4.size))
  have F5 : Fr (x :: v.ownBlock.toList) w w5 := ((((f1.mono (T := x :: v.ownBlock.toList) (by simp)).trans' f2 (fun y hy => .inl (by simp at hy; simp [hy]))).trans' f3 (by simp)).trans' f4 (by simp)).trans' f5 (fun y hy => .inl (List.mem_cons_of_mem _ hy))
  have hx4 : x < w4.heap.size := by omega
  have hv' : v'.ownBlock ≠ some x := fun h => by
    rcases hk x h with h | h
    · exact hne h
    · omega
  refine ⟨Blk.setRow_ (Blk.setRow_ hl _) _, ?_, (F5.setRow (.inl (by simp)) _).setRow (.inl (by simp)) _, fun q hq => ?_⟩
  · refine ht.fr (((Fr.refl [x] w5).setRow (.inl (by simp)) _).setRow (.inl (by simp)) _) (fun y hy => .inl (by simp at hy; subst hy; exact hx)) (fun q hq hm => ?_)
    simp at hm
    subst hm
    exact hv' hq
  · rcases hk q hq with h | h
    · exact .inl h
    · exact .inr (by omega)
set_option maxRecDepth 100000 in
set_option maxHeartbeats 2000000 in
theorem take_calls08 (w : World) (x p : Nat) (v : Value) (k : Nat) (last sum : List UInt8) (br : Bool) (D : List Nat) (base : Nat) (T : List (List UInt8)) (hD : ∀ y ∈ D, y < w.heap.size) (hx : x ∈ D) (h : LogB w x p v (k : Int) last br) (ht : TxRow w v D base T) (hl1 : last.length = 32) (hl2 : sum.length = 32)
    (A : Option Addr) (m c : Nat) (b : List UInt8) (hm : b.length = m) (hA : Rd w A b) (hAx : 0 < b.length → ∀ g off, A = some ⟨g, off, none⟩ → g ∉ [x]) (hmb : m ≤ 100000) (hk : k ≤ 1000000) (hT : T.length ≤ 1000000) (hb : base ≤ w.heap.size) :
    Calls Try.prog 39 #[.pointer (some ⟨x, 0, none⟩), .slice A m c, .agg (u8s sum).toArray] w (TakeP w x p v (k + needN m) sum br D base (T ++ [b])) := by
  have hne : v.ownBlock ≠ some x := by
    obtain ⟨vs, _, h2, _⟩ := ht
    exact own_blk_ne h2 h (by decide)
  obtain ⟨V1, V2, V3, hv⟩ := ht.slice
  subst hv
  obtain ⟨w1, hw1⟩ : ∃ W, w.alloc (.cells (u8s sum).toArray 41) = W := ⟨_, rfl⟩
  have f1 : Fr [] w w1 := hw1 ▸ (Fr.refl [] w).alloc _
  have hb1 : Blk w1 w.heap.size 41 (u8s sum).toArray := hw1 ▸ Blk.new w _ _
  have HL1 := Lib.hid (h.fr f1 (by simp)); have HT1 := Lib.hid (ht.frD f1)
  have HTW := Lib.hid ht
  have HB1 := Lib.hid hb1; have F1 := Lib.hid f1
  have HNE := Lib.hid hne; have HDD := Lib.hid hD; have HX := Lib.hid hx; have HXL := Lib.hid (hD x hx)
  have HND := Lib.hid (fun W => need_calls W (m : Int))
  have HNZ := Lib.hid (needZ_nat m hmb); have HNN := Lib.hid (show needN m ≤ 2000 by rw [needN_le m hmb]; omega)
  have HDS := Lib.hid (digF sum hl2); have HL32 := Lib.hid (And.intro hl1 hl2)
  have HM := Lib.hid hm; have HTL := Lib.hid hT; have HBS := Lib.hid hb; have HCL0 := Lib.hid (fun W (h : Fr [x] w1 W) => (clone_n W A m c b hm ((hA.fr f1 (by simp)).fr0 h hAx) (by omega)).mono fun e w' h => OwnBytes.toN hm h)
  have hI : (0 : Int) ≤ (k : Int) ∧ (k : Int) ≤ 1000000 ∧ (0 : Int) ≤ (m : Int) ∧ (m : Int) ≤ 100000 := by omega
  clear f1 hb1 h ht hl1 hl2 hm hA hAx hmb hk hT hb hne hD hx
  go_enter Try.func39, Try.ntmps39
  go_wp2_with (refine box_agg rfl 41 (.tmp 2) rfl (u8s sum).toArray rfl ?_; rw [hw1])
  rename_i K hK
  suffices hend : K { tmps := #[.pointer (some ⟨x, 0, none⟩), .slice A m c, .agg (u8s sum).toArray, undef, undef, .pointer (some ⟨w.heap.size, 0, none⟩), .pointer (some ⟨x, 0, none⟩), .pointer (some ⟨x, 0, none⟩), .pointer (some ⟨x, 2, none⟩), .int .i64 (k : Int), .slice A m c, .int .i64 (m : Int), .int .i64 (needZ (m : Int)), .int .i64 ((k + needN m : Nat) : Int), .pointer (some ⟨x, 0, none⟩), .pointer (some ⟨x, 2, none⟩), undef, undef, undef, undef, undef, undef, undef, undef, undef, undef, undef, undef, undef, undef, undef], defers := [] } (w1.drew.setRow x (logC p (.slice V1 V2 V3) ((k + needN m : Nat) : Int) last br).toArray) from by
    have hS0 : True := trivial
    refine sqs_begin (fun _ => True) (by kernel_rfl) ?_
    refine sqs_take (i := 0) (v := (.pointer (some ⟨x, 0, none⟩))) (d := 6) rfl (by kernel_rfl) (by kernel_rfl) (by kernel_rfl) (by kernel_rfl) (by kernel_rfl) (fun _ _ _ h => h) ?_ (by assumption) ?_
    · intro w9 h9; kernel_rfl
    try simp only [Act.put, List.setIfInBounds_toArray, List.set_cons_zero, List.set_cons_succ]
    refine sqs_take (i := 1) (v := (.pointer (some ⟨x, 0, none⟩))) (d := 7) rfl (by kernel_rfl) (by kernel_rfl) (by kernel_rfl) (by kernel_rfl) (by kernel_rfl) (fun _ _ _ h => h) ?_ (by assumption) ?_
    · intro w9 h9; kernel_rfl
    try simp only [Act.put, List.setIfInBounds_toArray, List.set_cons_zero, List.set_cons_succ]
    refine sqs_take (i := 2) (v := (.pointer (some ⟨x, 2, none⟩))) (d := 8) rfl (by kernel_rfl) (by kernel_rfl) (by kernel_rfl) (by kernel_rfl) (by kernel_rfl) (fun _ _ _ h => h) ?_ (by assumption) ?_
    · intro w9 h9; kernel_rfl
    try simp only [Act.put, List.setIfInBounds_toArray, List.set_cons_zero, List.set_cons_succ]
    refine sqs_take (i := 4) (v := (.slice A m c)) (d := 10) rfl (by kernel_rfl) (by kernel_rfl) (by kernel_rfl) (by kernel_rfl) (by kernel_rfl) (fun _ _ _ h => h) ?_ (by assumption) ?_
    · intro w9 h9; kernel_rfl
    try simp only [Act.put, List.setIfInBounds_toArray, List.set_cons_zero, List.set_cons_succ]
    refine sqs_take (i := 5) (v := (.int .i64 (m : Int))) (d := 11) rfl (by kernel_rfl) (by kernel_rfl) (by kernel_rfl) (by kernel_rfl) (by kernel_rfl) (fun _ _ _ h => h) ?_ (by assumption) ?_
    · intro w9 h9; kernel_rfl
    try simp only [Act.put, List.setIfInBounds_toArray, List.set_cons_zero, List.set_cons_succ]
    refine sqs_two (i := 3) (j := 6) rfl (by kernel_rfl) rfl (by kernel_rfl) (by kernel_rfl) ?_ ?_
    · have hr3 := fun (a₀ : Act) (o₀ : Oper) (K₀ : Act → World → Prop) (Q₀ : Exit → Act → World → Prop) => @sq_val Try.prog Q₀ a₀ o₀ w1.drew K₀ (.int .i64 (k : Int)) w1.drew 9
      refine hr3 _ _ _ _ ?_ ?_ ?_
      · kernel_rfl
      · exact exec_load_one rfl (by kernel_rfl) (.int .i64 (k : Int)) (.int .i64) w1.drew (LogB.c2 (LogB.drew HL1.out)) Try.underlying3 rfl
      clear hr3
      refine ⟨trivial, ?_⟩
      try simp only [Act.put, List.setIfInBounds_toArray, List.set_cons_zero, List.set_cons_succ]
      refine sqs_only (i := 6) rfl (by kernel_rfl) (by kernel_rfl) ?_
      have hr6 := fun (a₀ : Act) (o₀ : Oper) (K₀ : Act → World → Prop) (Q₀ : Exit → Act → World → Prop) => @sq_call Try.prog Q₀ a₀ o₀ w1.drew K₀ (Same (.int .i64 (needZ (m : Int))) w1.drew) 9 #[.int .i64 (m : Int)] 12
      refine hr6 _ _ _ _ ?_ ?_ ?_ ?_
      · kernel_rfl
      · kernel_rfl
      · exact (HND.out w1.drew)
      rintro e w9 ⟨rfl, rfl⟩
      refine ⟨_, rfl, trivial, ?_⟩
      clear hr6
      try simp only [Act.put, List.setIfInBounds_toArray, List.set_cons_zero, List.set_cons_succ]
      refine sqs_take (i := 7) (v := (.int .i64 ((k + needN m : Nat) : Int))) (d := 13) rfl (by kernel_rfl) (by kernel_rfl) (by kernel_rfl) (by kernel_rfl) (by kernel_rfl) (fun _ _ _ h => h) ?_ (by assumption) ?_
      · intro w9 h9; go_simp; rw [HNZ.out]; have := HNN.out; rw [IntKind.wrap_i64] <;> omega
      try simp only [Act.put, List.setIfInBounds_toArray, List.set_cons_zero, List.set_cons_succ]
      refine sqs_take (i := 8) (v := (.pointer (some ⟨x, 0, none⟩))) (d := 14) rfl (by kernel_rfl) (by kernel_rfl) (by kernel_rfl) (by kernel_rfl) (by kernel_rfl) (fun _ _ _ h => h) ?_ (by assumption) ?_
      · intro w9 h9; kernel_rfl
      try simp only [Act.put, List.setIfInBounds_toArray, List.set_cons_zero, List.set_cons_succ]
      refine sqs_take (i := 9) (v := (.pointer (some ⟨x, 2, none⟩))) (d := 15) rfl (by kernel_rfl) (by kernel_rfl) (by kernel_rfl) (by kernel_rfl) (by kernel_rfl) (fun _ _ _ h => h) ?_ (by assumption) ?_
      · intro w9 h9; kernel_rfl
      try simp only [Act.put, List.setIfInBounds_toArray, List.set_cons_zero, List.set_cons_succ]
      refine sqs_only (i := 10) rfl (by kernel_rfl) (by kernel_rfl) ?_
      have hr10 := fun (a₀ : Act) (o₀ : Oper) (K₀ : Act → World → Prop) (Q₀ : Exit → Act → World → Prop) => @sq_store1 Try.prog Q₀ a₀ o₀ w1.drew K₀ 3 (.tmp 15) (.tmp 13) x 2 (.int .i64 ((k + needN m : Nat) : Int)) (logC p (.slice V1 V2 V3) (k : Int) last br) (logC p (.slice V1 V2 V3) ((k + needN m : Nat) : Int) last br) 65
      refine hr10 _ _ _ _ ?_ ?_ ?_ ?_ ?_ ?_ ?_ ?_ ?_ ?_ ?_
      · kernel_rfl
      · kernel_rfl
      · kernel_rfl
      · kernel_rfl
      · rfl
      · exact (logC_setk _ _ _ _ _ _)
      · exact (LogB.drew HL1.out)
      · exact (by rw [logC_length _ _ _ _ _ HL32.out.1]; omega)
      · exact rfl
      · exact (by kernel_rfl)
      clear hr10
      refine ⟨trivial, ?_⟩
      try simp only [Act.put, List.setIfInBounds_toArray, List.set_cons_zero, List.set_cons_succ]
      refine wpAnyH_done (by kernel_rfl) ?_ _
      exact hend
    · have hr6 := fun (a₀ : Act) (o₀ : Oper) (K₀ : Act → World → Prop) (Q₀ : Exit → Act → World → Prop) => @sq_call Try.prog Q₀ a₀ o₀ w1.drew K₀ (Same (.int .i64 (needZ (m : Int))) w1.drew) 9 #[.int .i64 (m : Int)] 12
      refine hr6 _ _ _ _ ?_ ?_ ?_ ?_
      · kernel_rfl
      · kernel_rfl
      · exact (HND.out w1.drew)
      rintro e w9 ⟨rfl, rfl⟩
      refine ⟨_, rfl, trivial, ?_⟩
      clear hr6
      try simp only [Act.put, List.setIfInBounds_toArray, List.set_cons_zero, List.set_cons_succ]
      refine sqs_only (i := 3) rfl (by kernel_rfl) (by kernel_rfl) ?_
      have hr3 := fun (a₀ : Act) (o₀ : Oper) (K₀ : Act → World → Prop) (Q₀ : Exit → Act → World → Prop) => @sq_val Try.prog Q₀ a₀ o₀ w1.drew K₀ (.int .i64 (k : Int)) w1.drew 9
      refine hr3 _ _ _ _ ?_ ?_ ?_
      · kernel_rfl
      · exact exec_load_one rfl (by kernel_rfl) (.int .i64 (k : Int)) (.int .i64) w1.drew (LogB.c2 (LogB.drew HL1.out)) Try.underlying3 rfl
      clear hr3
      refine ⟨trivial, ?_⟩
      try simp only [Act.put, List.setIfInBounds_toArray, List.set_cons_zero, List.set_cons_succ]
      refine sqs_take (i := 7) (v := (.int .i64 ((k + needN m : Nat) : Int))) (d := 13) rfl (by kernel_rfl) (by kernel_rfl) (by kernel_rfl) (by kernel_rfl) (by kernel_rfl) (fun _ _ _ h => h) ?_ (by assumption) ?_
      · intro w9 h9; go_simp; rw [HNZ.out]; have := HNN.out; rw [IntKind.wrap_i64] <;> omega
      try simp only [Act.put, List.setIfInBounds_toArray, List.set_cons_zero, List.set_cons_succ]
      refine sqs_take (i := 8) (v := (.pointer (some ⟨x, 0, none⟩))) (d := 14) rfl (by kernel_rfl) (by kernel_rfl) (by kernel_rfl) (by kernel_rfl) (by kernel_rfl) (fun _ _ _ h => h) ?_ (by assumption) ?_
      · intro w9 h9; kernel_rfl
      try simp only [Act.put, List.setIfInBounds_toArray, List.set_cons_zero, List.set_cons_succ]
      refine sqs_take (i := 9) (v := (.pointer (some ⟨x, 2, none⟩))) (d := 15) rfl (by kernel_rfl) (by kernel_rfl) (by kernel_rfl) (by kernel_rfl) (by kernel_rfl) (fun _ _ _ h => h) ?_ (by assumption) ?_
      · intro w9 h9; kernel_rfl
      try simp only [Act.put, List.setIfInBounds_toArray, List.set_cons_zero, List.set_cons_succ]
      refine sqs_only (i := 10) rfl (by kernel_rfl) (by kernel_rfl) ?_
      have hr10 := fun (a₀ : Act) (o₀ : Oper) (K₀ : Act → World → Prop) (Q₀ : Exit → Act → World → Prop) => @sq_store1 Try.prog Q₀ a₀ o₀ w1.drew K₀ 3 (.tmp 15) (.tmp 13) x 2 (.int .i64 ((k + needN m : Nat) : Int)) (logC p (.slice V1 V2 V3) (k : Int) last br) (logC p (.slice V1 V2 V3) ((k + needN m : Nat) : Int) last br) 65
      refine hr10 _ _ _ _ ?_ ?_ ?_ ?_ ?_ ?_ ?_ ?_ ?_ ?_ ?_
      · kernel_rfl
      · kernel_rfl
      · kernel_rfl
      · kernel_rfl
      · rfl
      · exact (logC_setk _ _ _ _ _ _)
      · exact (LogB.drew HL1.out)
      · exact (by rw [logC_length _ _ _ _ _ HL32.out.1]; omega)
      · exact rfl
      · exact (by kernel_rfl)
      clear hr10
      refine ⟨trivial, ?_⟩
      try simp only [Act.put, List.setIfInBounds_toArray, List.set_cons_zero, List.set_cons_succ]
      refine wpAnyH_done (by kernel_rfl) ?_ _
      exact hend
  refine hK _ _ ?_
  obtain ⟨w2, hw2⟩ : ∃ W, w1.drew.setRow x (logC p (.slice V1 V2 V3) ((k + needN m : Nat) : Int) last br).toArray = W := ⟨_, rfl⟩
  rw [hw2]
  have f2 : Fr [x] w1 w2 := hw2 ▸ (Fr.refl [x] w1).drew.setRow (.inl (by simp)) _
  have HL2 := Lib.hid (show LogB w2 x p (.slice V1 V2 V3) ((k + needN m : Nat) : Int) last br from hw2 ▸ Blk.setRow_ HL1.out.drew _)
  have HT2 := Lib.hid (HT1.out.fr f2 (fun y hy => .inl (by simp at hy; subst hy; exact HX.out)) (fun q hq hm => by simp at hm; subst hm; exact HNE.out hq))
  have HB2 := Lib.hid (HB1.out.fr f2 (by have := HXL.out; simp; omega))
  have HCL := Lib.hid (HCL0.out w2.drew f2.drew)
  have HB0 := Lib.hid (fun w3 w4 (g3 : Fr [] w2.drew w3) (g4 : Fr [] w3 w4) => Nat.le_trans HBS.out (Nat.le_trans F1.out.size (Nat.le_trans f2.size (Nat.le_trans g3.size g4.size))))
  have HFAR : ∀ w3 A3 c3, World.ownsRow w3 w2.drew.heap.size 5 1 (.slice A3 m c3) m (u8s b) → 0 < b.length → ∀ bb off, A3 = some ⟨bb, off, none⟩ → bb ∉ D ∧ some bb ≠ (Value.slice V1 V2 V3).ownBlock := fun w3 A3 c3 h3 _ bb off hb => by
    have h1 : w2.heap.size ≤ bb := own_ge h3 bb off hb
    have h2 := F1.out.size
    have h3 := f2.size
    refine ⟨fun hm => ?_, fun e => ?_⟩
    · have := HDD.out bb hm
      omega
    · have := (HT2.out.lt bb e.symm).2
      omega
  have HNX := Lib.hid (show x ∉ (Value.slice V1 V2 V3).ownBlock.toList from fun hm => HNE.out (by simpa using hm))
  have HNS := Lib.hid (show w.heap.size ∉ (Value.slice V1 V2 V3).ownBlock.toList from fun hm => by
    have := (HTW.out.lt w.heap.size (by simpa using hm)).2
    omega)
  have HSX := Lib.hid (show w.heap.size ≠ x from fun e => by have := HXL.out; omega)
  have F2 := Lib.hid f2
  clear f2 hw2
  go_wp2_with fail
  have hS0 : ∀ j u, (u8s sum)[j]? = some u → w2.drew.cell? ⟨w.heap.size, 0 + j, none⟩ = some u := rd_row HB2.out.drew
  refine sqs_begin (fun w9 => ∀ j u, (u8s sum)[j]? = some u → w9.cell? ⟨w.heap.size, 0 + j, none⟩ = some u) (by kernel_rfl) ?_
  refine sqs_take (i := 0) (v := (.pointer (some ⟨x, 0, none⟩))) (d := 16) rfl (by kernel_rfl) (by kernel_rfl) (by kernel_rfl) (by kernel_rfl) (by kernel_rfl) (fun _ _ _ h => h) ?_ (by assumption) ?_
  · intro w9 h9; kernel_rfl
  try simp only [Act.put, List.setIfInBounds_toArray, List.set_cons_zero, List.set_cons_succ]
  refine sqs_take (i := 1) (v := (.pointer (some ⟨x, 0, none⟩))) (d := 17) rfl (by kernel_rfl) (by kernel_rfl) (by kernel_rfl) (by kernel_rfl) (by kernel_rfl) (fun _ _ _ h => h) ?_ (by assumption) ?_
  · intro w9 h9; kernel_rfl
  try simp only [Act.put, List.setIfInBounds_toArray, List.set_cons_zero, List.set_cons_succ]
  refine sqs_take (i := 2) (v := (.pointer (some ⟨x, 0, none⟩))) (d := 18) rfl (by kernel_rfl) (by kernel_rfl) (by kernel_rfl) (by kernel_rfl) (by kernel_rfl) (fun _ _ _ h => h) ?_ (by assumption) ?_
  · intro w9 h9; kernel_rfl
  try simp only [Act.put, List.setIfInBounds_toArray, List.set_cons_zero, List.set_cons_succ]
  refine sqs_take (i := 3) (v := (.pointer (some ⟨x, 0, none⟩))) (d := 19) rfl (by kernel_rfl) (by kernel_rfl) (by kernel_rfl) (by kernel_rfl) (by kernel_rfl) (fun _ _ _ h => h) ?_ (by assumption) ?_
  · intro w9 h9; kernel_rfl
  try simp only [Act.put, List.setIfInBounds_toArray, List.set_cons_zero, List.set_cons_succ]
  refine sqs_take (i := 4) (v := (.pointer (some ⟨x, 1, none⟩))) (d := 20) rfl (by kernel_rfl) (by kernel_rfl) (by kernel_rfl) (by kernel_rfl) (by kernel_rfl) (fun _ _ _ h => h) ?_ (by assumption) ?_
  · intro w9 h9; kernel_rfl
  try simp only [Act.put, List.setIfInBounds_toArray, List.set_cons_zero, List.set_cons_succ]
  refine sqs_take (i := 6) (v := (.slice A m c)) (d := 22) rfl (by kernel_rfl) (by kernel_rfl) (by kernel_rfl) (by kernel_rfl) (by kernel_rfl) (fun _ _ _ h => h) ?_ (by assumption) ?_
  · intro w9 h9; kernel_rfl
  try simp only [Act.put, List.setIfInBounds_toArray, List.set_cons_zero, List.set_cons_succ]
  refine sqs_take (i := 10) (v := (.agg (u8s sum).toArray)) (d := 26) rfl (by kernel_rfl) (by kernel_rfl) (by kernel_rfl) (by kernel_rfl) (by kernel_rfl) (fun _ _ _ h => h) ?_ (by assumption) ?_
  · intro w9 h9; exact exec_load_agg rfl w.heap.size 0 (by kernel_rfl) (u8s sum) _ h9 Try.underlying41 rfl HDS.out.2.1
  try simp only [Act.put, List.setIfInBounds_toArray, List.set_cons_zero, List.set_cons_succ]
  refine sqs_two (i := 5) (j := 7) rfl (by kernel_rfl) rfl (by kernel_rfl) (by kernel_rfl) ?_ ?_
  · have hr5 := fun (a₀ : Act) (o₀ : Oper) (K₀ : Act → World → Prop) (Q₀ : Exit → Act → World → Prop) => @sq_val Try.prog Q₀ a₀ o₀ w2.drew K₀ (.slice V1 V2 V3) w2.drew 21
    refine hr5 _ _ _ _ ?_ ?_ ?_
    · kernel_rfl
    · exact exec_load_one rfl (by kernel_rfl) (.slice V1 V2 V3) (.slice 26) w2.drew (LogB.c1 (LogB.drew HL2.out)) Try.underlying25 rfl
    clear hr5
    refine ⟨hS0, ?_⟩
    try simp only [Act.put, List.setIfInBounds_toArray, List.set_cons_zero, List.set_cons_succ]
    refine sqs_only (i := 7) rfl (by kernel_rfl) (by kernel_rfl) ?_
    have hr7 := fun (a₀ : Act) (o₀ : Oper) (K₀ : Act → World → Prop) (Q₀ : Exit → Act → World → Prop) => @sq_call Try.prog Q₀ a₀ o₀ w2.drew K₀ (OwnRN w2.drew m b) 35 #[.slice A m c] 23
    refine hr7 _ _ _ _ ?_ ?_ ?_ ?_
    · kernel_rfl
    · kernel_rfl
    · exact HCL.out
    rintro e w3 ⟨A3, c3, rfl, ho3, f3⟩
    have HO3 := Lib.hid ho3
    have F3 := Lib.hid f3
    have HL3 := Lib.hid (LogB.fr (LogB.drew HL2.out) f3 (by simp))
    have HT3 := Lib.hid ((HT2.out.frD (Fr.refl [] w2).drew).frD f3)
    have HB3 := Lib.hid (Blk.fr (Blk.drew HB2.out) f3 (by simp))
    have hS3 := rd_row HB3.out
    clear ho3 f3
    refine ⟨_, rfl, hS3, ?_⟩
    clear hr7
    try simp only [Act.put, List.setIfInBounds_toArray, List.set_cons_zero, List.set_cons_succ]
    refine sqs_only (i := 8) rfl (by kernel_rfl) (by kernel_rfl) ?_
    have hr8 := fun (a₀ : Act) (o₀ : Oper) (K₀ : Act → World → Prop) (Q₀ : Exit → Act → World → Prop) => @sq_val Try.prog Q₀ a₀ o₀ w3 K₀ (.slice (some ⟨w3.heap.size, 0, none⟩) 1 1) (w3.alloc (.cells #[.slice A3 m c3] 26)) 24
    refine hr8 _ _ _ _ ?_ ?_ ?_
    · kernel_rfl
    · kernel_rfl
    clear hr8
    refine ⟨(rd_row (Blk.fr HB3.out ((Fr.refl [] w3).alloc _) (by simp))), ?_⟩
    try simp only [Act.put, List.setIfInBounds_toArray, List.set_cons_zero, List.set_cons_succ]
    obtain ⟨y, hy⟩ : ∃ y, w3.heap.size = y := ⟨_, rfl⟩
    obtain ⟨w4, hw4⟩ : ∃ W, w3.alloc (.cells #[.slice A3 m c3] 26) = W := ⟨_, rfl⟩
    rw [hw4, hy]
    have f4 : Fr [] w3 w4 := hw4 ▸ (Fr.refl [] w3).alloc _
    have HK4 := Lib.hid (show Blk w4 y 26 #[.slice A3 m c3] from hw4 ▸ hy ▸ Blk.new w3 _ _)
    have HT4 := Lib.hid (HT3.out.frD f4)
    have HL4 := Lib.hid (LogB.fr HL3.out f4 (by simp))
    have HB4 := Lib.hid (HB3.out.fr f4 (by simp))
    have hS4 := rd_row HB4.out
    refine sqs_only (i := 9) rfl (by kernel_rfl) (by kernel_rfl) ?_
    have hr9 := fun (a₀ : Act) (o₀ : Oper) (K₀ : Act → World → Prop) (Q₀ : Exit → Act → World → Prop) hgd hd ho hs hx => @sq_appTx1 Q₀ o₀ a₀ w4 K₀ hgd (.tmp 21) (.tmp 24) 25 hd ho base (.slice V1 V2 V3) D T hs HT4.out b A3 m c3 y 1 HM.out hx HK4.out ((own_rn HO3.out).fr f4 (by simp)) (HFAR w3 A3 c3 HO3.out) (own_le HO3.out) HTL.out (HB0.out w3 w4 F3.out f4)
    refine hr9 _ _ _ _ ?_ ?_ ?_ ?_ ?_ ?_
    · kernel_rfl
    · kernel_rfl
    · kernel_rfl
    · kernel_rfl
    · kernel_rfl
    intro v5 w5 ht5 f5 hk5
    clear hr9
    obtain ⟨A5, n5, c5, rfl⟩ := ht5.slice
    have HL5 := Lib.hid (LogB.fr HL4.out f5 (HNX.out))
    have HB5 := Lib.hid (HB4.out.fr f5 (HNS.out))
    have hS5 := rd_row HB5.out
    refine ⟨hS5, ?_⟩
    try simp only [Act.put, List.setIfInBounds_toArray, List.set_cons_zero, List.set_cons_succ]
    refine sqs_take (i := 11) (v := (.pointer (some ⟨x, 0, none⟩))) (d := 27) rfl (by kernel_rfl) (by kernel_rfl) (by kernel_rfl) (by kernel_rfl) (by kernel_rfl) (fun _ _ _ h => h) ?_ (by assumption) ?_
    · intro w9 h9; kernel_rfl
    try simp only [Act.put, List.setIfInBounds_toArray, List.set_cons_zero, List.set_cons_succ]
    refine sqs_take (i := 12) (v := (.pointer (some ⟨x, 1, none⟩))) (d := 28) rfl (by kernel_rfl) (by kernel_rfl) (by kernel_rfl) (by kernel_rfl) (by kernel_rfl) (fun _ _ _ h => h) ?_ (by assumption) ?_
    · intro w9 h9; kernel_rfl
    try simp only [Act.put, List.setIfInBounds_toArray, List.set_cons_zero, List.set_cons_succ]
    refine sqs_only (i := 13) rfl (by kernel_rfl) (by kernel_rfl) ?_
    have hr13 := fun (a₀ : Act) (o₀ : Oper) (K₀ : Act → World → Prop) (Q₀ : Exit → Act → World → Prop) => @sq_store1 Try.prog Q₀ a₀ o₀ w5 K₀ 25 (.tmp 28) (.tmp 25) x 1 (.slice A5 n5 c5) (logC p (.slice V1 V2 V3) ((k + needN m : Nat) : Int) last br) (logC p (.slice A5 n5 c5) ((k + needN m : Nat) : Int) last br) 65
    refine hr13 _ _ _ _ ?_ ?_ ?_ ?_ ?_ ?_ ?_ ?_ ?_ ?_ ?_
    · kernel_rfl
    · kernel_rfl
    · kernel_rfl
    · kernel_rfl
    · rfl
    · exact (logC_setl _ _ _ _ _ _)
    · exact HL5.out
    · exact (by rw [logC_length _ _ _ _ _ HL32.out.1]; omega)
    · exact rfl
    · exact (by kernel_rfl)
    clear hr13
    have hSs13 : (∀ j u, (u8s sum)[j]? = some u → (w5.setRow x (logC p (.slice A5 n5 c5) ((k + needN m : Nat) : Int) last br).toArray).cell? ⟨w.heap.size, 0 + j, none⟩ = some u) := (rd_row (HB5.out.setRow_far HSX.out _))
    refine ⟨hSs13, ?_⟩
    try simp only [Act.put, List.setIfInBounds_toArray, List.set_cons_zero, List.set_cons_succ]
    refine sqs_take (i := 14) (v := (.pointer (some ⟨x, 0, none⟩))) (d := 29) rfl (by kernel_rfl) (by kernel_rfl) (by kernel_rfl) (by kernel_rfl) (by kernel_rfl) (fun _ _ _ h => h) ?_ (by assumption) ?_
    · intro w9 h9; kernel_rfl
    try simp only [Act.put, List.setIfInBounds_toArray, List.set_cons_zero, List.set_cons_succ]
    refine sqs_take (i := 15) (v := (.pointer (some ⟨x, 3, none⟩))) (d := 30) rfl (by kernel_rfl) (by kernel_rfl) (by kernel_rfl) (by kernel_rfl) (by kernel_rfl) (fun _ _ _ h => h) ?_ (by assumption) ?_
    · intro w9 h9; kernel_rfl
    try simp only [Act.put, List.setIfInBounds_toArray, List.set_cons_zero, List.set_cons_succ]
    refine sqs_only (i := 16) rfl (by kernel_rfl) (by kernel_rfl) ?_
    have hr16 := fun (a₀ : Act) (o₀ : Oper) (K₀ : Act → World → Prop) (Q₀ : Exit → Act → World → Prop) => @sq_store Try.prog Q₀ a₀ o₀ (w5.setRow x (logC p (.slice A5 n5 c5) ((k + needN m : Nat) : Int) last br).toArray) K₀ 41 (.tmp 30) (.tmp 26) x 3 (u8s sum) (logC p (.slice A5 n5 c5) ((k + needN m : Nat) : Int) last br) 65
    refine hr16 _ _ _ _ ?_ ?_ ?_ ?_ ?_ ?_ ?_ ?_ ?_
    · kernel_rfl
    · kernel_rfl
    · kernel_rfl
    · kernel_rfl
    · exact (Blk.setRow_ HL5.out _)
    · exact (by rw [logC_length _ _ _ _ _ HL32.out.1, u8s_length, HL32.out.2]; omega)
    · exact (u8s_one _)
    · exact HDS.out.2.1
    clear hr16
    rw [logC_sets _ _ _ _ _ _ HL32.out.1 HL32.out.2]
    refine ⟨(rd_row ((HB5.out.setRow_far HSX.out _).setRow_far HSX.out _)), ?_⟩
    try simp only [Act.put, List.setIfInBounds_toArray, List.set_cons_zero, List.set_cons_succ]
    refine wpAnyH_done (by kernel_rfl) ?_ _
    go_wp2_with fail
    refine bodyPost_ret (results_none rfl _ _ _) rfl ?_
    exact ⟨_, _, rfl, take_fin HX.out HNE.out HXL.out F1.out F2.out ((Fr.refl [] w2).drew.trans F3.out) f4 f5 ht5 hk5 HL5.out HL32.out.1 HL32.out.2 rfl rfl⟩
  · have hr7 := fun (a₀ : Act) (o₀ : Oper) (K₀ : Act → World → Prop) (Q₀ : Exit → Act → World → Prop) => @sq_call Try.prog Q₀ a₀ o₀ w2.drew K₀ (OwnRN w2.drew m b) 35 #[.slice A m c] 23
    refine hr7 _ _ _ _ ?_ ?_ ?_ ?_
    · kernel_rfl
    · kernel_rfl
    · exact HCL.out
    rintro e w3 ⟨A3, c3, rfl, ho3, f3⟩
    have HO3 := Lib.hid ho3
    have F3 := Lib.hid f3
    have HL3 := Lib.hid (LogB.fr (LogB.drew HL2.out) f3 (by simp))
    have HT3 := Lib.hid ((HT2.out.frD (Fr.refl [] w2).drew).frD f3)
    have HB3 := Lib.hid (Blk.fr (Blk.drew HB2.out) f3 (by simp))
    have hS3 := rd_row HB3.out
    clear ho3 f3
    refine ⟨_, rfl, hS3, ?_⟩
    clear hr7
    try simp only [Act.put, List.setIfInBounds_toArray, List.set_cons_zero, List.set_cons_succ]
    refine sqs_two (i := 5) (j := 8) rfl (by kernel_rfl) rfl (by kernel_rfl) (by kernel_rfl) ?_ ?_
    · have hr5 := fun (a₀ : Act) (o₀ : Oper) (K₀ : Act → World → Prop) (Q₀ : Exit → Act → World → Prop) => @sq_val Try.prog Q₀ a₀ o₀ w3 K₀ (.slice V1 V2 V3) w3 21
      refine hr5 _ _ _ _ ?_ ?_ ?_
      · kernel_rfl
      · exact exec_load_one rfl (by kernel_rfl) (.slice V1 V2 V3) (.slice 26) w3 (LogB.c1 HL3.out) Try.underlying25 rfl
      clear hr5
      refine ⟨hS3, ?_⟩
      try simp only [Act.put, List.setIfInBounds_toArray, List.set_cons_zero, List.set_cons_succ]
      refine sqs_only (i := 8) rfl (by kernel_rfl) (by kernel_rfl) ?_
      have hr8 := fun (a₀ : Act) (o₀ : Oper) (K₀ : Act → World → Prop) (Q₀ : Exit → Act → World → Prop) => @sq_val Try.prog Q₀ a₀ o₀ w3 K₀ (.slice (some ⟨w3.heap.size, 0, none⟩) 1 1) (w3.alloc (.cells #[.slice A3 m c3] 26)) 24
      refine hr8 _ _ _ _ ?_ ?_ ?_
      · kernel_rfl
      · kernel_rfl
      clear hr8
      refine ⟨(rd_row (Blk.fr HB3.out ((Fr.refl [] w3).alloc _) (by simp))), ?_⟩
      try simp only [Act.put, List.setIfInBounds_toArray, List.set_cons_zero, List.set_cons_succ]
      obtain ⟨y, hy⟩ : ∃ y, w3.heap.size = y := ⟨_, rfl⟩
      obtain ⟨w4, hw4⟩ : ∃ W, w3.alloc (.cells #[.slice A3 m c3] 26) = W := ⟨_, rfl⟩
      rw [hw4, hy]
      have f4 : Fr [] w3 w4 := hw4 ▸ (Fr.refl [] w3).alloc _
      have HK4 := Lib.hid (show Blk w4 y 26 #[.slice A3 m c3] from hw4 ▸ hy ▸ Blk.new w3 _ _)
      have HT4 := Lib.hid (HT3.out.frD f4)
      have HL4 := Lib.hid (LogB.fr HL3.out f4 (by simp))
      have HB4 := Lib.hid (HB3.out.fr f4 (by simp))
      have hS4 := rd_row HB4.out
      refine sqs_only (i := 9) rfl (by kernel_rfl) (by kernel_rfl) ?_
      have hr9 := fun (a₀ : Act) (o₀ : Oper) (K₀ : Act → World → Prop) (Q₀ : Exit → Act → World → Prop) hgd hd ho hs hx => @sq_appTx1 Q₀ o₀ a₀ w4 K₀ hgd (.tmp 21) (.tmp 24) 25 hd ho base (.slice V1 V2 V3) D T hs HT4.out b A3 m c3 y 1 HM.out hx HK4.out ((own_rn HO3.out).fr f4 (by simp)) (HFAR w3 A3 c3 HO3.out) (own_le HO3.out) HTL.out (HB0.out w3 w4 F3.out f4)
      refine hr9 _ _ _ _ ?_ ?_ ?_ ?_ ?_ ?_
      · kernel_rfl
      · kernel_rfl
      · kernel_rfl
      · kernel_rfl
      · kernel_rfl
      intro v5 w5 ht5 f5 hk5
      clear hr9
      obtain ⟨A5, n5, c5, rfl⟩ := ht5.slice
      have HL5 := Lib.hid (LogB.fr HL4.out f5 (HNX.out))
      have HB5 := Lib.hid (HB4.out.fr f5 (HNS.out))
      have hS5 := rd_row HB5.out
      refine ⟨hS5, ?_⟩
      try simp only [Act.put, List.setIfInBounds_toArray, List.set_cons_zero, List.set_cons_succ]
      refine sqs_take (i := 11) (v := (.pointer (some ⟨x, 0, none⟩))) (d := 27) rfl (by kernel_rfl) (by kernel_rfl) (by kernel_rfl) (by kernel_rfl) (by kernel_rfl) (fun _ _ _ h => h) ?_ (by assumption) ?_
      · intro w9 h9; kernel_rfl
      try simp only [Act.put, List.setIfInBounds_toArray, List.set_cons_zero, List.set_cons_succ]
      refine sqs_take (i := 12) (v := (.pointer (some ⟨x, 1, none⟩))) (d := 28) rfl (by kernel_rfl) (by kernel_rfl) (by kernel_rfl) (by kernel_rfl) (by kernel_rfl) (fun _ _ _ h => h) ?_ (by assumption) ?_
      · intro w9 h9; kernel_rfl
      try simp only [Act.put, List.setIfInBounds_toArray, List.set_cons_zero, List.set_cons_succ]
      refine sqs_only (i := 13) rfl (by kernel_rfl) (by kernel_rfl) ?_
      have hr13 := fun (a₀ : Act) (o₀ : Oper) (K₀ : Act → World → Prop) (Q₀ : Exit → Act → World → Prop) => @sq_store1 Try.prog Q₀ a₀ o₀ w5 K₀ 25 (.tmp 28) (.tmp 25) x 1 (.slice A5 n5 c5) (logC p (.slice V1 V2 V3) ((k + needN m : Nat) : Int) last br) (logC p (.slice A5 n5 c5) ((k + needN m : Nat) : Int) last br) 65
      refine hr13 _ _ _ _ ?_ ?_ ?_ ?_ ?_ ?_ ?_ ?_ ?_ ?_ ?_
      · kernel_rfl
      · kernel_rfl
      · kernel_rfl
      · kernel_rfl
      · rfl
      · exact (logC_setl _ _ _ _ _ _)
      · exact HL5.out
      · exact (by rw [logC_length _ _ _ _ _ HL32.out.1]; omega)
      · exact rfl
      · exact (by kernel_rfl)
      clear hr13
      have hSs13 : (∀ j u, (u8s sum)[j]? = some u → (w5.setRow x (logC p (.slice A5 n5 c5) ((k + needN m : Nat) : Int) last br).toArray).cell? ⟨w.heap.size, 0 + j, none⟩ = some u) := (rd_row (HB5.out.setRow_far HSX.out _))
      refine ⟨hSs13, ?_⟩
      try simp only [Act.put, List.setIfInBounds_toArray, List.set_cons_zero, List.set_cons_succ]
      refine sqs_take (i := 14) (v := (.pointer (some ⟨x, 0, none⟩))) (d := 29) rfl (by kernel_rfl) (by kernel_rfl) (by kernel_rfl) (by kernel_rfl) (by kernel_rfl) (fun _ _ _ h => h) ?_ (by assumption) ?_
      · intro w9 h9; kernel_rfl
      try simp only [Act.put, List.setIfInBounds_toArray, List.set_cons_zero, List.set_cons_succ]
      refine sqs_take (i := 15) (v := (.pointer (some ⟨x, 3, none⟩))) (d := 30) rfl (by kernel_rfl) (by kernel_rfl) (by kernel_rfl) (by kernel_rfl) (by kernel_rfl) (fun _ _ _ h => h) ?_ (by assumption) ?_
      · intro w9 h9; kernel_rfl
      try simp only [Act.put, List.setIfInBounds_toArray, List.set_cons_zero, List.set_cons_succ]
      refine sqs_only (i := 16) rfl (by kernel_rfl) (by kernel_rfl) ?_
      have hr16 := fun (a₀ : Act) (o₀ : Oper) (K₀ : Act → World → Prop) (Q₀ : Exit → Act → World → Prop) => @sq_store Try.prog Q₀ a₀ o₀ (w5.setRow x (logC p (.slice A5 n5 c5) ((k + needN m : Nat) : Int) last br).toArray) K₀ 41 (.tmp 30) (.tmp 26) x 3 (u8s sum) (logC p (.slice A5 n5 c5) ((k + needN m : Nat) : Int) last br) 65
      refine hr16 _ _ _ _ ?_ ?_ ?_ ?_ ?_ ?_ ?_ ?_ ?_
      · kernel_rfl
      · kernel_rfl
      · kernel_rfl
      · kernel_rfl
      · exact (Blk.setRow_ HL5.out _)
      · exact (by rw [logC_length _ _ _ _ _ HL32.out.1, u8s_length, HL32.out.2]; omega)
      · exact (u8s_one _)
      · exact HDS.out.2.1
      clear hr16
      rw [logC_sets _ _ _ _ _ _ HL32.out.1 HL32.out.2]
      refine ⟨(rd_row ((HB5.out.setRow_far HSX.out _).setRow_far HSX.out _)), ?_⟩
      try simp only [Act.put, List.setIfInBounds_toArray, List.set_cons_zero, List.set_cons_succ]
      refine wpAnyH_done (by kernel_rfl) ?_ _
      go_wp2_with fail
      refine bodyPost_ret (results_none rfl _ _ _) rfl ?_
      exact ⟨_, _, rfl, take_fin HX.out HNE.out HXL.out F1.out F2.out ((Fr.refl [] w2).drew.trans F3.out) f4 f5 ht5 hk5 HL5.out HL32.out.1 HL32.out.2 rfl rfl⟩
    · have hr8 := fun (a₀ : Act) (o₀ : Oper) (K₀ : Act → World → Prop) (Q₀ : Exit → Act → World → Prop) => @sq_val Try.prog Q₀ a₀ o₀ w3 K₀ (.slice (some ⟨w3.heap.size, 0, none⟩) 1 1) (w3.alloc (.cells #[.slice A3 m c3] 26)) 24
      refine hr8 _ _ _ _ ?_ ?_ ?_
      · kernel_rfl
      · kernel_rfl
      clear hr8
      refine ⟨(rd_row (Blk.fr HB3.out ((Fr.refl [] w3).alloc _) (by simp))), ?_⟩
      try simp only [Act.put, List.setIfInBounds_toArray, List.set_cons_zero, List.set_cons_succ]
      obtain ⟨y, hy⟩ : ∃ y, w3.heap.size = y := ⟨_, rfl⟩
      obtain ⟨w4, hw4⟩ : ∃ W, w3.alloc (.cells #[.slice A3 m c3] 26) = W := ⟨_, rfl⟩
      rw [hw4, hy]
      have f4 : Fr [] w3 w4 := hw4 ▸ (Fr.refl [] w3).alloc _
      have HK4 := Lib.hid (show Blk w4 y 26 #[.slice A3 m c3] from hw4 ▸ hy ▸ Blk.new w3 _ _)
      have HT4 := Lib.hid (HT3.out.frD f4)
      have HL4 := Lib.hid (LogB.fr HL3.out f4 (by simp))
      have HB4 := Lib.hid (HB3.out.fr f4 (by simp))
      have hS4 := rd_row HB4.out
      refine sqs_only (i := 5) rfl (by kernel_rfl) (by kernel_rfl) ?_
      have hr5 := fun (a₀ : Act) (o₀ : Oper) (K₀ : Act → World → Prop) (Q₀ : Exit → Act → World → Prop) => @sq_val Try.prog Q₀ a₀ o₀ w4 K₀ (.slice V1 V2 V3) w4 21
      refine hr5 _ _ _ _ ?_ ?_ ?_
      · kernel_rfl
      · exact exec_load_one rfl (by kernel_rfl) (.slice V1 V2 V3) (.slice 26) w4 (LogB.c1 HL4.out) Try.underlying25 rfl
      clear hr5
      refine ⟨hS4, ?_⟩
      try simp only [Act.put, List.setIfInBounds_toArray, List.set_cons_zero, List.set_cons_succ]
      refine sqs_only (i := 9) rfl (by kernel_rfl) (by kernel_rfl) ?_
      have hr9 := fun (a₀ : Act) (o₀ : Oper) (K₀ : Act → World → Prop) (Q₀ : Exit → Act → World → Prop) hgd hd ho hs hx => @sq_appTx1 Q₀ o₀ a₀ w4 K₀ hgd (.tmp 21) (.tmp 24) 25 hd ho base (.slice V1 V2 V3) D T hs HT4.out b A3 m c3 y 1 HM.out hx HK4.out ((own_rn HO3.out).fr f4 (by simp)) (HFAR w3 A3 c3 HO3.out) (own_le HO3.out) HTL.out (HB0.out w3 w4 F3.out f4)
      refine hr9 _ _ _ _ ?_ ?_ ?_ ?_ ?_ ?_
      · kernel_rfl
      · kernel_rfl
      · kernel_rfl
      · kernel_rfl
      · kernel_rfl
      intro v5 w5 ht5 f5 hk5
      clear hr9
      obtain ⟨A5, n5, c5, rfl⟩ := ht5.slice
      have HL5 := Lib.hid (LogB.fr HL4.out f5 (HNX.out))
      have HB5 := Lib.hid (HB4.out.fr f5 (HNS.out))
      have hS5 := rd_row HB5.out
      refine ⟨hS5, ?_⟩
      try simp only [Act.put, List.setIfInBounds_toArray, List.set_cons_zero, List.set_cons_succ]
      refine sqs_take (i := 11) (v := (.pointer (some ⟨x, 0, none⟩))) (d := 27) rfl (by kernel_rfl) (by kernel_rfl) (by kernel_rfl) (by kernel_rfl) (by kernel_rfl) (fun _ _ _ h => h) ?_ (by assumption) ?_
      · intro w9 h9; kernel_rfl
      try simp only [Act.put, List.setIfInBounds_toArray, List.set_cons_zero, List.set_cons_succ]
      refine sqs_take (i := 12) (v := (.pointer (some ⟨x, 1, none⟩))) (d := 28) rfl (by kernel_rfl) (by kernel_rfl) (by kernel_rfl) (by kernel_rfl) (by kernel_rfl) (fun _ _ _ h => h) ?_ (by assumption) ?_
      · intro w9 h9; kernel_rfl
      try simp only [Act.put, List.setIfInBounds_toArray, List.set_cons_zero, List.set_cons_succ]
      refine sqs_only (i := 13) rfl (by kernel_rfl) (by kernel_rfl) ?_
      have hr13 := fun (a₀ : Act) (o₀ : Oper) (K₀ : Act → World → Prop) (Q₀ : Exit → Act → World → Prop) => @sq_store1 Try.prog Q₀ a₀ o₀ w5 K₀ 25 (.tmp 28) (.tmp 25) x 1 (.slice A5 n5 c5) (logC p (.slice V1 V2 V3) ((k + needN m : Nat) : Int) last br) (logC p (.slice A5 n5 c5) ((k + needN m : Nat) : Int) last br) 65
      refine hr13 _ _ _ _ ?_ ?_ ?_ ?_ ?_ ?_ ?_ ?_ ?_ ?_ ?_
      · kernel_rfl
      · kernel_rfl
      · kernel_rfl
      · kernel_rfl
      · rfl
      · exact (logC_setl _ _ _ _ _ _)
      · exact HL5.out
      · exact (by rw [logC_length _ _ _ _ _ HL32.out.1]; omega)
      · exact rfl
      · exact (by kernel_rfl)
      clear hr13
      have hSs13 : (∀ j u, (u8s sum)[j]? = some u → (w5.setRow x (logC p (.slice A5 n5 c5) ((k + needN m : Nat) : Int) last br).toArray).cell? ⟨w.heap.size, 0 + j, none⟩ = some u) := (rd_row (HB5.out.setRow_far HSX.out _))
      refine ⟨hSs13, ?_⟩
      try simp only [Act.put, List.setIfInBounds_toArray, List.set_cons_zero, List.set_cons_succ]
      refine sqs_take (i := 14) (v := (.pointer (some ⟨x, 0, none⟩))) (d := 29) rfl (by kernel_rfl) (by kernel_rfl) (by kernel_rfl) (by kernel_rfl) (by kernel_rfl) (fun _ _ _ h => h) ?_ (by assumption) ?_
      · intro w9 h9; kernel_rfl
      try simp only [Act.put, List.setIfInBounds_toArray, List.set_cons_zero, List.set_cons_succ]
      refine sqs_take (i := 15) (v := (.pointer (some ⟨x, 3, none⟩))) (d := 30) rfl (by kernel_rfl) (by kernel_rfl) (by kernel_rfl) (by kernel_rfl) (by kernel_rfl) (fun _ _ _ h => h) ?_ (by assumption) ?_
      · intro w9 h9; kernel_rfl
      try simp only [Act.put, List.setIfInBounds_toArray, List.set_cons_zero, List.set_cons_succ]
      refine sqs_only (i := 16) rfl (by kernel_rfl) (by kernel_rfl) ?_
      have hr16 := fun (a₀ : Act) (o₀ : Oper) (K₀ : Act → World → Prop) (Q₀ : Exit → Act → World → Prop) => @sq_store Try.prog Q₀ a₀ o₀ (w5.setRow x (logC p (.slice A5 n5 c5) ((k + needN m : Nat) : Int) last br).toArray) K₀ 41 (.tmp 30) (.tmp 26) x 3 (u8s sum) (logC p (.slice A5 n5 c5) ((k + needN m : Nat) : Int) last br) 65
      refine hr16 _ _ _ _ ?_ ?_ ?_ ?_ ?_ ?_ ?_ ?_ ?_
      · kernel_rfl
      · kernel_rfl
      · kernel_rfl
      · kernel_rfl
      · exact (Blk.setRow_ HL5.out _)
      · exact (by rw [logC_length _ _ _ _ _ HL32.out.1, u8s_length, HL32.out.2]; omega)
      · exact (u8s_one _)
      · exact HDS.out.2.1
      clear hr16
      rw [logC_sets _ _ _ _ _ _ HL32.out.1 HL32.out.2]
      refine ⟨(rd_row ((HB5.out.setRow_far HSX.out _).setRow_far HSX.out _)), ?_⟩
      try simp only [Act.put, List.setIfInBounds_toArray, List.set_cons_zero, List.set_cons_succ]
      refine wpAnyH_done (by kernel_rfl) ?_ _
      go_wp2_with fail
      refine bodyPost_ret (results_none rfl _ _ _) rfl ?_
      exact ⟨_, _, rfl, take_fin HX.out HNE.out HXL.out F1.out F2.out ((Fr.refl [] w2).drew.trans F3.out) f4 f5 ht5 hk5 HL5.out HL32.out.1 HL32.out.2 rfl rfl⟩
end Go.Proofs.Ytmmjihkcofgmmaa
