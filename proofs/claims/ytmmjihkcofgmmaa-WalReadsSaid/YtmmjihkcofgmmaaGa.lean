/- The texts Mem ShaA ShaB ShaC RegInv ShaR ShaS App Seq of this seat, one behind another; what each says stands at its head. -/
import Derived.WalkKit
import Derived.WalkSpells
import Derived.WalkLawsBesides
import Derived.Deep.AppendLies
import Derived.Deep.Draws
import Derived.Deep.OwnRows
import Derived.Deep.LoopGhost
import Derived.Deep.QuietTactic
import Derived.BigQuiet
import Derived.Maps.AppendAt
import Derived.Laws.CopyOwn
import Derived.Lib.Hide
import Derived.Test.YtmmjihkcofgmmaaProg
import Derived.Test.YtmmjihkcofgmmaaChecked
import Derived.RegionTactic
import Derived.Outline
import Derived.KernelRfl
import Derived.Deep.RegionLaw
import Derived.Deep.DeepCutAuto
import Derived.StillTailTactics
import Derived.Orders
import Derived.Laws.OwnMore
import Derived.Deep.RegionHeld3

/-
  Words for memory, and small lemmas, over any program. No conditions of its own. Written by an AI agent.
-/
namespace Go.Proofs.Ytmmjihkcofgmmaa
open Go.RowKit

/-- Only the blocks listed in S, and new ones, may have turned. -/
structure Fr (S : List Nat) (w w' : World) : Prop where
  os : w'.os = w.os
  tape : w'.tape = w.tape
  output : w'.output = w.output
  size : w.heap.size ≤ w'.heap.size
  block : ∀ k, k < w.heap.size → k ∉ S → w'.heap[k]? = w.heap[k]?

section
variable {S T : List Nat} {a w w' : World}
theorem Fr.refl (S : List Nat) (w : World) : Fr S w w := ⟨rfl, rfl, rfl, Nat.le_refl _, fun _ _ _ => rfl⟩
theorem Fr.trans' {b c : World} (h : Fr S a b) (k : Fr T b c) (hT : ∀ x ∈ T, x ∈ S ∨ a.heap.size ≤ x) : Fr S a c :=
  ⟨k.os.trans h.os, k.tape.trans h.tape, k.output.trans h.output, Nat.le_trans h.size k.size, fun i hi hn =>
    (k.block i (Nat.lt_of_lt_of_le hi h.size) (fun hm => by rcases hT i hm with h1 | h1; exact hn h1; omega)).trans (h.block i hi hn)⟩
theorem Fr.trans {b c : World} (h : Fr S a b) (k : Fr S b c) : Fr S a c := h.trans' k fun _ hx => .inl hx
theorem Fr.mono (h : Fr S a w) (hT : ∀ x ∈ S, x ∈ T ∨ a.heap.size ≤ x) : Fr T a w :=
  ⟨h.os, h.tape, h.output, h.size, fun i hi hn => h.block i hi (fun hm => by rcases hT i hm with h1 | h1; exact hn h1; omega)⟩
theorem Fr.alloc (h : Fr S a w) (o : Obj) : Fr S a (w.alloc o) :=
  ⟨h.os, h.tape, h.output, Nat.le_trans h.size (by simp), fun i hi hn => (Below.heap_alloc w o i (Nat.lt_of_lt_of_le hi h.size)).trans (h.block i hi hn)⟩
theorem Fr.drew (h : Fr S a w) : Fr S a w.drew := ⟨h.os, h.tape, h.output, h.size, h.block⟩
theorem Fr.drewN (h : Fr S a w) (n : Nat) : Fr S a (w.drewN n) := ⟨h.os, h.tape, h.output, h.size, h.block⟩
theorem Fr.setCell (h : Fr S a w) {p : Addr} (hp : p.block ∈ S ∨ a.heap.size ≤ p.block) (u : Value) : Fr S a (w.setCell p u) :=
  ⟨h.os, h.tape, h.output, by simpa [World.setCell] using h.size, fun i hi hn => (Below.heap_setCell w p u i (by
    rintro rfl
    rcases hp with hp | hp
    · exact hn hp
    · omega)).trans (h.block i hi hn)⟩
theorem Fr.setRow (h : Fr S a w) {g : Nat} (hp : g ∈ S ∨ a.heap.size ≤ g) (cs : Array Value) : Fr S a (w.setRow g cs) :=
  ⟨h.os, h.tape, h.output, by simpa [World.setRow] using h.size, fun i hi hn => (setRow_other w g i cs (by
    rintro rfl
    rcases hp with hp | hp
    · exact hn hp
    · omega)).trans (h.block i hi hn)⟩
theorem Fr.grown (h : Fr S a w) {row : Option Nat} (hg : w.grownBy w' row) (hr : ∀ k, row = some k → k ∈ S ∨ a.heap.size ≤ k) : Fr S a w' :=
  ⟨hg.os.trans h.os, hg.tape.trans h.tape, hg.output.trans h.output, Nat.le_trans h.size hg.size, fun i hi hn =>
    (hg.block i (Nat.lt_of_lt_of_le hi h.size) (fun e => by rcases hr i e.symm with h1 | h1; exact hn h1; omega)).trans (h.block i hi hn)⟩
theorem Fr.below (h : Fr S a w) {B : Nat} (hB : B ≤ a.heap.size) (hS : ∀ x ∈ S, B ≤ x) : Below B a w :=
  ⟨h.os, h.tape, h.output, h.size, fun k hk => h.block k (by omega) (fun hm => by have := hS k hm; omega)⟩
theorem Fr.of_below (h : Below a.heap.size a w) : Fr S a w := ⟨h.os, h.tape, h.output, h.size, fun k hk _ => h.block k hk⟩
theorem Fr.cell (h : Fr S a w) {p : Addr} (hp : p.block < a.heap.size) (hn : p.block ∉ S) : w.cell? p = a.cell? p := World.cell?_of_block (h.block _ hp hn)
theorem Fr.frozen (h : Fr S a w) {p : Addr} (hp : p.block < a.heap.size) (hn : p.block ∉ S) : w.frozen? p = a.frozen? p := World.frozen?_of_block (h.block _ hp hn)
end

/-- Block g is just the cells cs, of element type t, none frozen. -/
def Blk (w : World) (g : Nat) (t : TypeId) (cs : Array Value) : Prop := w.heap[g]? = some (.cells cs t (0, 0))

section
variable {w w' : World} {g : Nat} {t : TypeId} {cs : Array Value}
theorem Blk.lt (h : Blk w g t cs) : g < w.heap.size := by
  rcases Nat.lt_or_ge g w.heap.size with hlt | hge
  · exact hlt
  · unfold Blk at h; rw [Array.getElem?_eq_none hge] at h; cases h
theorem Blk.cell (h : Blk w g t cs) (i : Nat) : w.cell? ⟨g, i, none⟩ = cs[i]? := cell_of_row w g i cs t (0, 0) h
theorem Blk.frozen (h : Blk w g t cs) (i : Nat) : w.frozen? ⟨g, i, none⟩ = false := by
  unfold Blk at h
  simp [World.frozen?, h]
theorem Blk.new (w : World) (t : TypeId) (cs : Array Value) : Blk (w.alloc (.cells cs t)) w.heap.size t cs := heap_alloc_new w _
theorem Blk.drew (h : Blk w g t cs) : Blk w.drew g t cs := h
theorem Blk.drewN (h : Blk w g t cs) (n : Nat) : Blk (w.drewN n) g t cs := h
theorem Blk.alloc (h : Blk w g t cs) (o : Obj) : Blk (w.alloc o) g t cs := (Below.heap_alloc w o g h.lt).trans h
theorem Blk.set_ (h : Blk w g t cs) (i : Nat) (u : Value) : Blk (w.setCell ⟨g, i, none⟩ u) g t (cs.setIfInBounds i u) := by
  unfold Blk at h ⊢
  simp [World.setCell, Array.getElem?_modify, h]
theorem Blk.far (h : Blk w g t cs) {p : Addr} (hp : g ≠ p.block) (u : Value) : Blk (w.setCell p u) g t cs := (Below.heap_setCell w p u g hp).trans h
theorem Blk.below {B : Nat} (h : Blk w g t cs) (hb : Below B w w') (hg : g < B) : Blk w' g t cs := (hb.block g hg).trans h
theorem Blk.fr {S : List Nat} (h : Blk w g t cs) (hb : Fr S w w') (hg : g ∉ S) : Blk w' g t cs := (hb.block g h.lt hg).trans h
theorem Blk.grown {row : Option Nat} (h : Blk w g t cs) (hb : w.grownBy w' row) (hg : some g ≠ row) : Blk w' g t cs := (hb.block g h.lt hg).trans h
theorem Blk.setRow_far (h : Blk w g t cs) {k : Nat} (hp : g ≠ k) (xs : Array Value) : Blk (w.setRow k xs) g t cs := (setRow_other w k g xs hp).trans h
theorem Blk.setRow_ (h : Blk w g t cs) (xs : Array Value) : Blk (w.setRow g xs) g t xs := setRow_heap w g cs xs t (0, 0) h
theorem Blk.ne_ {g' : Nat} {t' : TypeId} {cs' : Array Value} (h : Blk w g t cs) (h' : Blk w g' t' cs') (hne : t ≠ t') : g ≠ g' := by
  rintro rfl
  unfold Blk at h h'
  rw [h] at h'
  injection h' with h'
  injection h' with _ ht
  exact hne ht
end

/-- a byte's value; a list of bytes' values -/
abbrev u8v (x : UInt8) : Value := .int .u8 (x.toNat : Int)
def u8s (l : List UInt8) : List Value := l.map u8v
@[simp] theorem u8s_length (l : List UInt8) : (u8s l).length = l.length := by simp [u8s]
theorem u8s_append (l m : List UInt8) : u8s (l ++ m) = u8s l ++ u8s m := by simp [u8s]
theorem u8s_take (l : List UInt8) (n : Nat) : u8s (l.take n) = (u8s l).take n := by simp [u8s]
theorem u8s_drop (l : List UInt8) (n : Nat) : u8s (l.drop n) = (u8s l).drop n := by simp [u8s]
theorem u8s_get (l : List UInt8) (i : Nat) : (u8s l)[i]? = (l[i]?).map u8v := by simp [u8s]
theorem u8s_one (l : List UInt8) : ∀ u ∈ u8s l, u.oneCell' = true := by
  intro u hu
  simp only [u8s, List.mem_map] at hu
  obtain ⟨x, _, rfl⟩ := hu
  rfl
/-- 'copy' into a block that is known whole. -/
theorem run_copy_any {P : Program} (w : World) (dT sT ty elem : TypeId) (hu : P.underlying dT = some (.slice elem)) (hsz : (P.info? elem).map (·.size) = some 1)
    (dp sp : Option Addr) (dLen dCap sLen sCap g off : Nat) (cur : List Value) (t : TypeId) (hg : Blk w g t cur.toArray) (cs : List Value) (hn : cs.length = Nat.min sLen dLen)
    (hdst : 0 < cs.length → dp = some ⟨g, off, none⟩) (hsrc : 0 < cs.length → ∃ ad, sp = some ad ∧ ∀ j v, cs[j]? = some v → w.cell? (ad.add j) = some v)
    (hfit : off + cs.length ≤ cur.length) (h1 : ∀ v ∈ cs, v.oneCell' = true) :
    ∃ w', (Builtin.copy_ #[dT, sT] ty #[.slice dp dLen dCap, .slice sp sLen sCap]).run P w = .ok (goInt cs.length) w' ∧ Blk w' g t (splice cur off cs).toArray ∧ Fr [g] w w' ∧ w'.heap.size = w.heap.size := by
  by_cases h0 : cs.length = 0
  · obtain rfl : cs = [] := List.eq_nil_of_length_eq_zero h0
    have hrun := run_copy_none (P := P) w dT sT ty elem dp sp dLen dCap sLen sCap hu hsz (by simpa using hn.symm)
    refine ⟨w, by simpa using hrun, ?_, Fr.refl _ _, rfl⟩
    have : splice cur off [] = cur := by simp [splice]
    rw [this]; exact hg
  · obtain rfl := hdst (by omega)
    obtain ⟨ad, rfl, hsrc'⟩ := hsrc (by omega)
    have hrun := run_copy_row (P := P) w dT sT ty elem g off dLen dCap ad sLen sCap cur.toArray t cs hu hsz hg hn hsrc' (by simpa using hfit) h1
    refine ⟨_, hrun, ?_, (Fr.refl _ _).setRow (.inl (by simp)) _, by simp [World.setRow]⟩
    have := Blk.setRow_ hg (cur.take off ++ cs ++ cur.drop (off + cs.length)).toArray
    simpa [splice] using this

theorem step_copy {P : Program} {ops : Array Oper} {o : Oper} {a : Act} {w : World} {K : Act → World → Prop} {Q : Exit → Act → World → Prop} {E : Prop} (hgd : o.guard = none) (d s : Operand) (dT sT : TypeId)
    (ho : o.op = .call { callee := .builtin .copy, args := #[d, s], argTypes := #[dT, sT] }) (elem : TypeId) (hu : P.underlying dT = some (.slice elem)) (hsz : (P.info? elem).map (·.size) = some 1)
    (dp sp : Option Addr) (dLen dCap sLen sCap : Nat) (hd : a.eval d = .slice dp dLen dCap) (hs : a.eval s = .slice sp sLen sCap)
    (g off : Nat) (cur : List Value) (t : TypeId) (hg : Blk w g t cur.toArray) (cs : List Value) (hn : cs.length = Nat.min sLen dLen)
    (hdst : 0 < cs.length → dp = some ⟨g, off, none⟩) (hsrc : 0 < cs.length → ∃ ad, sp = some ad ∧ ∀ j v, cs[j]? = some v → w.cell? (ad.add j) = some v)
    (hfit : off + cs.length ≤ cur.length) (h1 : ∀ v ∈ cs, v.oneCell' = true)
    (h : ∀ w', Blk w' g t (splice cur off cs).toArray → Fr [g] w w' → w'.heap.size = w.heap.size → K (a.put o.dst (goInt cs.length)) w') :
    if Region.wanted o (yielded ops a.tmps) = true then Oper.wp P o a w K Q else E := by
  have hw : Region.wanted o (yielded ops a.tmps) = true := by simp [Region.wanted, hgd]
  rw [if_pos hw]
  obtain ⟨w', hrun, hb, hf, hz⟩ := run_copy_any (P := P) w dT sT o.type elem hu hsz dp sp dLen dCap sLen sCap g off cur t hg cs hn hdst hsrc hfit h1
  unfold Oper.wp
  simp [execOp, ho, resolve, invoke, builtin, hd, hs, hrun, Result.andThen]
  exact h _ hb hf hz

theorem wpList_copy {P : Program} {ops : Array Oper} {rest : List Oper} {o : Oper} {a : Act} {w : World} {Q : Exit → Act → World → Prop} (hgd : o.guard = none) (d s : Operand) (dT sT : TypeId)
    (ho : o.op = .call { callee := .builtin .copy, args := #[d, s], argTypes := #[dT, sT] }) (elem : TypeId) (hu : P.underlying dT = some (.slice elem)) (hsz : (P.info? elem).map (·.size) = some 1)
    (dp sp : Option Addr) (dLen dCap sLen sCap : Nat) (hd : a.eval d = .slice dp dLen dCap) (hs : a.eval s = .slice sp sLen sCap)
    (g off : Nat) (cur : List Value) (t : TypeId) (hg : Blk w g t cur.toArray) (cs : List Value) (hn : cs.length = Nat.min sLen dLen)
    (hdst : 0 < cs.length → dp = some ⟨g, off, none⟩) (hsrc : 0 < cs.length → ∃ ad, sp = some ad ∧ ∀ j v, cs[j]? = some v → w.cell? (ad.add j) = some v)
    (hfit : off + cs.length ≤ cur.length) (h1 : ∀ v ∈ cs, v.oneCell' = true)
    (h : ∀ w', Blk w' g t (splice cur off cs).toArray → Fr [g] w w' → w'.heap.size = w.heap.size → wpList P ops Q rest (a.put o.dst (goInt cs.length)) w') :
    wpList P ops Q (o :: rest) a w := by
  refine wpList_plain hgd fun K hK => ?_
  have := step_copy (P := P) (ops := ops) (K := K) (Q := Q) (E := True) (a := a) (w := w) hgd d s dT sT ho elem hu hsz dp sp dLen dCap sLen sCap hd hs g off cur t hg cs hn hdst hsrc hfit h1
    (fun w' h2 h3 h4 => hK _ _ (h w' h2 h3 h4))
  have hw : Region.wanted o (yielded ops a.tmps) = true := by simp [Region.wanted, hgd]
  rwa [if_pos hw] at this

theorem splice_u8s (l m : List UInt8) (rest : List Value) (off : Nat) (h : off + m.length ≤ l.length) : splice (u8s l ++ rest) off (u8s m) = u8s (splice l off m) ++ rest := by
  have e1 : (u8s l ++ rest).take off = (u8s l).take off := List.take_append_of_le_length (by simp; omega)
  have e2 : (u8s l ++ rest).drop (off + (u8s m).length) = (u8s l).drop (off + m.length) ++ rest := by
    rw [List.drop_append_of_le_length (by simp; omega)]; simp
  unfold splice
  rw [e1, e2, u8s_append, u8s_append, u8s_take, u8s_drop]
  simp

/-- Where a slice's bytes lie: A is the slice's address; nothing is asked where there are none. -/
def Rd (w : World) (A : Option Addr) (l : List UInt8) : Prop := 0 < l.length → ∃ b off, A = some ⟨b, off, none⟩ ∧ ∀ j x, l[j]? = some x → w.cell? ⟨b, off + j, none⟩ = some (u8v x)
theorem Rd.keep {w w' : World} {A : Option Addr} {l : List UInt8} (h : Rd w A l) (hk : ∀ b off j, A = some ⟨b, off, none⟩ → j < l.length → w'.cell? ⟨b, off + j, none⟩ = w.cell? ⟨b, off + j, none⟩) : Rd w' A l := by
  intro hl
  obtain ⟨b, off, hA, hc⟩ := h hl
  refine ⟨b, off, hA, fun j x hx => ?_⟩
  rw [hk b off j hA (by obtain ⟨hj, _⟩ := List.getElem?_eq_some_iff.1 hx; exact hj)]
  exact hc j x hx
theorem Rd.src {w : World} {A : Option Addr} {l : List UInt8} (h : Rd w A l) (n : Nat) : 0 < (u8s (l.take n)).length → ∃ ad, A = some ad ∧ ∀ j v, (u8s (l.take n))[j]? = some v → w.cell? (ad.add j) = some v := by
  intro hl
  obtain ⟨b, off, rfl, hc⟩ := h (by simp at hl; omega)
  refine ⟨_, rfl, fun j v hv => ?_⟩
  rw [u8s_get, List.getElem?_take] at hv
  split at hv
  · cases hx : l[j]? with
    | none => simp [hx] at hv
    | some x =>
      simp [hx] at hv
      subst hv
      have := hc j x hx
      unfold Addr.add
      split
      · simpa [*] using this
      · exact this
  · simp at hv
theorem Rd.srcAll {w : World} {A : Option Addr} {l : List UInt8} (h : Rd w A l) : 0 < (u8s l).length → ∃ ad, A = some ad ∧ ∀ j v, (u8s l)[j]? = some v → w.cell? (ad.add j) = some v := by
  have := h.src l.length
  rwa [List.take_length] at this
theorem Rd.setCell {w : World} {A : Option Addr} {l : List UInt8} (h : Rd w A l) {p : Addr} (hp : ∀ b off, A = some ⟨b, off, none⟩ → b ≠ p.block) (u : Value) : Rd (w.setCell p u) A l :=
  h.keep fun b off j hb _ => World.cell?_setCell_other _ _ _ _ (fun e => hp b off hb (by rw [e]))
theorem Rd.drew {w : World} {A : Option Addr} {l : List UInt8} (h : Rd w A l) : Rd w.drew A l := h
theorem Rd.drewN {w : World} {A : Option Addr} {l : List UInt8} (h : Rd w A l) (n : Nat) : Rd (w.drewN n) A l := h
theorem Rd.lt {w : World} {l : List UInt8} {b off : Nat} (h : Rd w (some ⟨b, off, none⟩) l) (hl : 0 < l.length) : b < w.heap.size := by
  obtain ⟨b', off', hA, hc⟩ := h hl
  cases hA
  have := hc 0 l[0] (by simp)
  exact World.block_lt_of_cell? _ _ this
theorem Rd.take {w : World} {A : Option Addr} {l : List UInt8} (h : Rd w A l) (n : Nat) : Rd w A (l.take n) := by
  intro hl
  obtain ⟨b, off, hA, hc⟩ := h (by simp at hl; omega)
  refine ⟨b, off, hA, fun j x hx => hc j x ?_⟩
  rw [List.getElem?_take] at hx
  split at hx
  · exact hx
  · simp at hx
theorem Rd.fr {S : List Nat} {w w' : World} {A : Option Addr} {l : List UInt8} (h : Rd w A l) (hf : Fr S w w') (hS : ∀ b off, A = some ⟨b, off, none⟩ → b ∉ S) : Rd w' A l := by
  intro hl
  obtain ⟨b, off, hA, hc⟩ := h hl
  refine ⟨b, off, hA, fun j x hx => ?_⟩
  have h1 := hc j x hx
  rw [hf.cell (p := ⟨b, off + j, none⟩) (World.block_lt_of_cell? _ _ h1) (hS b off hA)]
  exact h1

theorem Rd.fr0 {S : List Nat} {w w' : World} {A : Option Addr} {l : List UInt8} (h : Rd w A l) (hf : Fr S w w') (hS : 0 < l.length → ∀ b off, A = some ⟨b, off, none⟩ → b ∉ S) : Rd w' A l := fun hl => h.fr hf (hS hl) hl
/-- a slice's cells lie in blocks that are there -/
theorem Rd.blk_lt {w : World} {A : Option Addr} {l : List UInt8} (h : Rd w A l) : 0 < l.length → ∀ b off, A = some ⟨b, off, none⟩ → b < w.heap.size := fun hl b off hA => by
  subst hA
  exact h.lt hl

section
variable {P : Program} {ops : Array Oper} {rest : List Oper} {o : Oper} {a : Act} {w : World} {K : Act → World → Prop} {Q : Exit → Act → World → Prop}
/-- An operation whose run is known. -/
theorem wpList_val (hgd : o.guard = none) (v : Value) (w' : World) (hrun : (execOp a.eval o).run P w = .ok (.value v) w') (h : wpList P ops Q rest (a.put o.dst v) w') : wpList P ops Q (o :: rest) a w :=
  wpList_plain hgd fun _ hK => by
    unfold Oper.wp
    rw [hrun]
    exact hK _ _ h
theorem wpList_skipv (hgd : o.guard = none) (w' : World) (hrun : (execOp a.eval o).run P w = .ok .skip w') (h : wpList P ops Q rest (a.put o.dst undef) w') : wpList P ops Q (o :: rest) a w :=
  wpList_plain hgd fun _ hK => by
    unfold Oper.wp
    rw [hrun]
    exact hK _ _ h

theorem run_isAgg {ty : TypeId} {d : TypeDesc} (hu : P.underlying ty = some d) (hd : (match d with | .struct _ | .array _ _ => true | _ => false) = true) (w : World) : (isAgg ty).run P w = .ok true w := by
  unfold isAgg
  rw [Sem.run_bind, run_underlying hu w]
  cases d <;> simp_all
theorem addr_add0 (b off j : Nat) : (⟨b, off, none⟩ : Addr).add j = ⟨b, off + j, none⟩ := by unfold Addr.add; split <;> simp_all
theorem run_loadVar_agg (w : World) (b off : Nat) (ty : TypeId) (cs : List Value) (d : TypeDesc) (hc : ∀ j v, cs[j]? = some v → w.cell? ⟨b, off + j, none⟩ = some v)
    (hu : P.underlying ty = some d) (hd : (match d with | .struct _ | .array _ _ => true | _ => false) = true) (hi : (P.info? ty).map (·.size) = some cs.length) :
    (loadVar ty ⟨b, off, none⟩).run P w = .ok (.agg cs.toArray) w := by
  have hl := run_loadCells_list (P := P) w ⟨b, off, none⟩ cs (fun j v hv => by rw [addr_add0]; exact hc j v hv)
  cases hq : P.info? ty with
  | none => simp [hq] at hi
  | some i =>
    have hs : i.size = cs.length := by simpa [hq] using hi
    simp [loadVar, Sem.run_bind, run_isAgg hu hd, sizeOf, typeInfo, hq, hs, hl]
/-- A struct or an array is loaded out of the middle of a block. -/
theorem wpList_load_agg (hgd : o.guard = none) (ty : TypeId) (x : Operand) (ho : o.op = .load ty x) (b off : Nat) (hx : a.eval x = .pointer (some ⟨b, off, none⟩))
    (cs : List Value) (d : TypeDesc) (hc : ∀ j v, cs[j]? = some v → w.cell? ⟨b, off + j, none⟩ = some v)
    (hu : P.underlying ty = some d) (hd : (match d with | .struct _ | .array _ _ => true | _ => false) = true) (hi : (P.info? ty).map (·.size) = some cs.length)
    (h : wpList P ops Q rest (a.put o.dst (.agg cs.toArray)) w) : wpList P ops Q (o :: rest) a w :=
  wpList_val hgd _ w (by unfold execOp; simp [ho, hx, Instr.loadAt, Instr.sureAddr, run_loadVar_agg w b off ty cs d hc hu hd hi]) h

/-- A new variable of a struct's or an array's type. -/
theorem wpList_alloc_agg (hgd : o.guard = none) (ty : TypeId) (ho : o.op = .alloc ty) (Z : Array Value) (hz : (P.info? ty).map (·.zero) = some (some (.agg Z)))
    (h : wpList P ops Q rest (a.put o.dst (.pointer (some ⟨w.heap.size, 0, none⟩))) (w.alloc (.cells Z ty))) : wpList P ops Q (o :: rest) a w := by
  refine wpList_val hgd _ _ ?_ h
  cases hq : P.info? ty with
  | none => simp [hq] at hz
  | some i =>
    have hs : i.zero = some (.agg Z) := by simpa [hq] using hz
    unfold execOp
    simp [ho, Instr.alloc, zeroValue, typeInfo, hq, hs, newVar, newRow, newObj, Value.cells, Sem.run]

/-- A struct or an array is stored into a block that is known whole. -/
theorem wpList_store_agg (hgd : o.guard = none) (ty : TypeId) (p x : Operand) (ho : o.op = .store ty p x) (g off : Nat) (hp : a.eval p = .pointer (some ⟨g, off, none⟩))
    (cs : List Value) (hx : a.eval x = .agg cs.toArray) (cur : List Value) (t : TypeId) (hg : Blk w g t cur.toArray) (hfit : off + cs.length ≤ cur.length) (h1 : ∀ v ∈ cs, v.oneCell' = true)
    (hi : (P.info? ty).map (·.size) = some cs.length)
    (h : wpList P ops Q rest (a.put o.dst undef) (w.setRow g (splice cur off cs).toArray)) : wpList P ops Q (o :: rest) a w := by
  refine wpList_skipv hgd _ ?_ h
  have hst := run_storeCells_at P g off t cs 0 cur.toArray w hg (by simpa using hfit) h1
  cases hq : P.info? ty with
  | none => simp [hq] at hi
  | some i =>
    have hs : i.size = cs.length := by simpa [hq] using hi
    unfold execOp
    simp only [ho, hp, hx]
    simp [Instr.storeAt, Instr.sureAddr, storeVar, sizeOf, typeInfo, hq, hs, Value.cells, hst, splice]

/-- 'make([]T, n)', T of as many cells as its zero value has. -/
theorem run_make_n (t e : TypeId) (z : Value) (size bytes : Nat) (ht : P.underlying t = some (.slice e)) (hi : (P.info? e).map (fun i => (i.zero, i.size, i.bytes)) = some (some z, size, bytes))
    (n : Nat) (hbytes : bytes * n ≤ 281474976710656) (h63 : n ≤ 9223372036854775807) (w : World) :
    (Instr.makeSlice t (.int .i64 (n : Int)) (.int .i64 (n : Int))).run P w = .ok (.slice (some ⟨w.heap.size, 0, none⟩) n n) (w.alloc (.cells (madeCells z.cells (n * size)) e)) := by
  obtain ⟨i, hi', hzz⟩ := Option.map_eq_some_iff.1 hi
  clear hi
  simp only [Prod.mk.injEq] at hzz
  obtain ⟨hz, rfl, rfl⟩ := hzz
  have hb : (i.bytes : Int) * (n : Int) ≤ 281474976710656 := by
    have h : ((i.bytes * n : Nat) : Int) ≤ 281474976710656 := by omega
    rwa [Int.natCast_mul] at h
  have hr := run_make (P := P) w t e i z ht hi' hz .i64 .i64 n n (by omega) (by omega) hb (by omega)
  simp only [Int.toNat_natCast] at hr
  exact hr
end

/-- A cell that was there stays behind new blocks. -/
theorem cell_alloc {w : World} {a : Addr} {v : Value} (h : w.cell? a = some v) (o : Obj) : (w.alloc o).cell? a = some v := by
  rw [World.cell?_alloc_lt _ _ _ (World.block_lt_of_cell? w a h)]; exact h
theorem cell_alloc2 {w : World} {a : Addr} {v : Value} (h : w.cell? a = some v) (o o' : Obj) : ((w.alloc o).alloc o').cell? a = some v := cell_alloc (cell_alloc h o) o'
theorem cell_alloc3 {w : World} {a : Addr} {v : Value} (h : w.cell? a = some v) (o o' o'' : Obj) : (((w.alloc o).alloc o').alloc o'').cell? a = some v := cell_alloc (cell_alloc2 h o o') o''

/-- n zero bytes -/
def zs (n : Nat) : List Value := u8s (List.replicate n 0)
theorem zs_length (n : Nat) : (zs n).length = n := by simp [zs]
theorem zs_eq (n : Nat) : zs n = List.replicate n (u8v 0) := by simp [zs, u8s]
theorem zs_one (n : Nat) : ∀ u ∈ zs n, u.oneCell' = true := u8s_one _
theorem madeCells_agg (k m : Nat) (hk : 0 < k) : madeCells (zs k).toArray m = (zs m).toArray := by
  apply Array.ext
  · simp [madeCells, zs_length]
  · intro i h1 h2
    have : i % k < k := Nat.mod_lt _ hk
    simp only [madeCells, Array.getElem_map, Array.getElem_range, List.getElem_toArray, zs_eq, List.getElem_replicate]
    simp [this]
theorem madeCells_one (m : Nat) : madeCells #[.int .u8 0] m = (zs m).toArray := by
  have h := madeCells_agg 1 m (by omega)
  have e : (zs 1).toArray = #[.int .u8 0] := rfl
  rwa [e] at h

section
variable {P : Program} {ops : Array Oper} {rest : List Oper} {o : Oper} {a : Act} {w : World} {K : Act → World → Prop} {Q : Exit → Act → World → Prop} {E : Prop}
theorem step_val (hw : Region.wanted o (yielded ops a.tmps) = true) (v : Value) (w' : World) (hrun : (execOp a.eval o).run P w = .ok (.value v) w') (h : K (a.put o.dst v) w') :
    if Region.wanted o (yielded ops a.tmps) = true then Oper.wp P o a w K Q else E := by
  rw [if_pos hw]
  unfold Oper.wp
  rw [hrun]
  exact h

/-- a text's bytes -/
def str (l : List UInt8) : ByteArray := ⟨l.toArray⟩
theorem str_data (l : List UInt8) : (str l).data.toList = l := rfl
theorem str_toList (l : List UInt8) : (str l).toList = l := by simp [str]
theorem str_inj {l m : List UInt8} : str l = str m ↔ l = m := ⟨fun h => by simpa [str] using h, fun h => by rw [h]⟩
theorem str_size (l : List UInt8) : (str l).size = l.length := by simp [str, ByteArray.size]

theorem run_conv_str {src dst e : TypeId} (hs : P.underlying src = some (.slice e)) (he : P.underlying e = some (.int .u8)) (hd : P.underlying dst = some .string)
    {A : Option Addr} {l : List UInt8} (h : Rd w A l) (c : Nat) : (convert src dst (.slice A l.length c)).run P w = .ok (.string (str l)) w := by
  rcases A with _ | ad
  · have hl : l = [] := by
      rcases Nat.eq_zero_or_pos l.length with h0 | h0
      · exact List.eq_nil_of_length_eq_zero h0
      · obtain ⟨_, _, hA, _⟩ := h h0; cases hA
    subst hl
    rw [run_convert_bytes_nil w src e hs he _ _ dst hd]
    rfl
  · rcases Nat.eq_zero_or_pos l.length with h0 | h0
    · have hl : l = [] := List.eq_nil_of_length_eq_zero h0
      subst hl
      rw [run_convert_bytes_string w src dst e _ _ c hs he hd]
      have := run_bytesToString (P := P) w ad 0 c [] (by simpa using run_loadCells_list (P := P) w ad [] (by simp))
      exact this
    · obtain ⟨b, off, hA, hc⟩ := h h0
      cases hA
      have hr := run_convert_bytes_arg (P := P) w src e hs he b off l.length c (l.map fun x => (x.toNat : Int)) (by simp) (fun i hi => by
        rw [hc i l[i] (by simp [hi])]
        simp [hi]) dst hd
      rw [hr]
      congr 2
      simp [strOfNums, str, Function.comp_def]

theorem exec_conv_str {src dst e : TypeId} {x : Operand} (ho : o.op = .convert src dst x) (hs : P.underlying src = some (.slice e)) (he : P.underlying e = some (.int .u8)) (hd : P.underlying dst = some .string)
    {A : Option Addr} {l : List UInt8} {c : Nat} (hx : a.eval x = .slice A l.length c) (h : Rd w A l) : (execOp a.eval o).run P w = .ok (.value (.string (str l))) w := by
  unfold execOp
  simp [ho, hx, run_conv_str hs he hd h c]

/-- append onto a row of the call's own, whatever the source. -/
theorem run_append_any (base : Nat) (t ty e : TypeId) (z : Value) (size bytes : Nat) (ht : P.underlying t = some (.slice e)) (hi : (P.info? e).map (fun i => (i.zero, i.size, i.bytes)) = some (some z, size, bytes))
    (hzs : z.cells.size = size) (hsz : 0 < size)
    (v : Value) (n : Nat) (xs : List Value) (hown : w.ownsRow base e size v n xs)
    (A : Option Addr) (m c : Nat) (news : List Value) (hl : news.length = m * size) (hsrc : 0 < news.length → ∃ ad, A = some ad ∧ ∀ j u, news[j]? = some u → w.cell? (ad.add j) = some u) (h1 : ∀ u ∈ news, u.oneCell' = true)
    (h63 : n + m ≤ maxLen) (hbytes : (n + m) * bytes ≤ 140737488355328) (hbase : base ≤ w.heap.size) :
    ∃ v' w', (Builtin.append_ #[t, t] ty #[v, .slice A m c]).run P w = .ok v' w' ∧ w'.ownsRow base e size v' (n + m) (xs ++ news) ∧ w.grownBy w' v.ownBlock ∧
      (v'.ownBlock = v.ownBlock ∨ v'.ownBlock = some w.heap.size) := by
  obtain ⟨i, hi', hzz⟩ := info_parts hi
  obtain ⟨hz, hsize, hby⟩ := hzz
  rcases A with _ | ad
  · have hm : m = 0 := by
      rcases Nat.eq_zero_or_pos m with h0 | h0
      · exact h0
      · obtain ⟨ad, h, _⟩ := hsrc (by rw [hl]; exact Nat.mul_pos h0 hsz)
        cases h
    subst hm
    have hn : news = [] := List.eq_nil_of_length_eq_zero (by simpa using hl)
    subst hn
    refine ⟨v, w, ?_, by simpa using hown, World.grownBy.refl w _, .inl rfl⟩
    rcases hown.2 with ⟨rfl, rfl⟩ | ⟨g, cap, cur, rfl, _, _, hnc, _⟩
    · simp [Builtin.append_, run_underlying ht, sizeOf, typeInfo, hi', Builtin.lenOf, Builtin.firstCells]
    · simp [Builtin.append_, run_underlying ht, sizeOf, typeInfo, hi', Builtin.lenOf, Builtin.firstCells, hnc, storeCells]
  · have hcells : ∀ j u, news[j]? = some u → w.cell? (ad.add j) = some u := by
      intro j u hu
      obtain ⟨ad', h, hc⟩ := hsrc (by obtain ⟨hj, _⟩ := List.getElem?_eq_some_iff.1 hu; omega)
      cases h
      exact hc j u hu
    obtain ⟨v', w', hrun, h2, h3, _, h5⟩ := run_append_own_at (P := P) w base t ty e i z size bytes ht hi' hz hsize hby hzs hsz v n xs hown ad m c news hl hcells h1 h63 hbytes hbase
    exact ⟨v', w', hrun, h2, h3, h5⟩

theorem step_append (hw : Region.wanted o (yielded ops a.tmps) = true) (s x : Operand) (t : TypeId)
    (ho : o.op = .call { callee := .builtin .append, args := #[s, x], argTypes := #[t, t] })
    (base : Nat) (e : TypeId) (z : Value) (size bytes : Nat) (ht : P.underlying t = some (.slice e)) (hi : (P.info? e).map (fun i => (i.zero, i.size, i.bytes)) = some (some z, size, bytes))
    (hzs : z.cells.size = size) (hsz : 0 < size)
    (v : Value) (n : Nat) (xs : List Value) (hs : a.eval s = v) (hown : w.ownsRow base e size v n xs)
    (A : Option Addr) (m c : Nat) (news : List Value) (hx : a.eval x = .slice A m c) (hl : news.length = m * size) (hsrc : 0 < news.length → ∃ ad, A = some ad ∧ ∀ j u, news[j]? = some u → w.cell? (ad.add j) = some u) (h1 : ∀ u ∈ news, u.oneCell' = true)
    (h63 : n + m ≤ maxLen) (hbytes : (n + m) * bytes ≤ 140737488355328) (hbase : base ≤ w.heap.size)
    (h : ∀ v' w', w'.ownsRow base e size v' (n + m) (xs ++ news) → Below base w w' → w.grownBy w' v.ownBlock → (v'.ownBlock = v.ownBlock ∨ v'.ownBlock = some w.heap.size) → K (a.put o.dst v') w') :
    if Region.wanted o (yielded ops a.tmps) = true then Oper.wp P o a w K Q else E := by
  obtain ⟨v', w', hrun, h2, h3, h4⟩ := run_append_any (P := P) (w := w) base t o.type e z size bytes ht hi hzs hsz v n xs hown A m c news hl hsrc h1 h63 hbytes hbase
  refine step_val hw v' w' ?_ (h v' w' h2 ((Below.refl base w).grown h3 hbase (fun k hk => (hown.lt k hk).1)) h3 h4)
  unfold execOp
  simp only [ho, resolve, invoke, builtin, Sem.run_bind, Sem.run_pure, Result.andThen_ok, List.map_toArray, List.map_cons, List.map_nil, hs, hx, hrun]

theorem wpList_append (hgd : o.guard = none) (s x : Operand) (t : TypeId)
    (ho : o.op = .call { callee := .builtin .append, args := #[s, x], argTypes := #[t, t] })
    (base : Nat) (e : TypeId) (z : Value) (size bytes : Nat) (ht : P.underlying t = some (.slice e)) (hi : (P.info? e).map (fun i => (i.zero, i.size, i.bytes)) = some (some z, size, bytes))
    (hzs : z.cells.size = size) (hsz : 0 < size)
    (v : Value) (n : Nat) (xs : List Value) (hs : a.eval s = v) (hown : w.ownsRow base e size v n xs)
    (A : Option Addr) (m c : Nat) (news : List Value) (hx : a.eval x = .slice A m c) (hl : news.length = m * size) (hsrc : 0 < news.length → ∃ ad, A = some ad ∧ ∀ j u, news[j]? = some u → w.cell? (ad.add j) = some u) (h1 : ∀ u ∈ news, u.oneCell' = true)
    (h63 : n + m ≤ maxLen) (hbytes : (n + m) * bytes ≤ 140737488355328) (hbase : base ≤ w.heap.size)
    (h : ∀ v' w', w'.ownsRow base e size v' (n + m) (xs ++ news) → Below base w w' → w.grownBy w' v.ownBlock → (v'.ownBlock = v.ownBlock ∨ v'.ownBlock = some w.heap.size) → wpList P ops Q rest (a.put o.dst v') w') :
    wpList P ops Q (o :: rest) a w := by
  obtain ⟨v', w', hrun, h2, h3, h4⟩ := run_append_any (P := P) (w := w) base t o.type e z size bytes ht hi hzs hsz v n xs hown A m c news hl hsrc h1 h63 hbytes hbase
  refine wpList_val hgd v' w' ?_ (h v' w' h2 ((Below.refl base w).grown h3 hbase (fun k hk => (hown.lt k hk).1)) h3 h4)
  unfold execOp
  simp only [ho, resolve, invoke, builtin, Sem.run_bind, Sem.run_pure, Result.andThen_ok, List.map_toArray, List.map_cons, List.map_nil, hs, hx, hrun]
end

/-- The address of element j of a slice whose address is told by an equation that the walk does not see. -/
theorem run_index_slice' {P : Program} (w : World) {t e : TypeId} {size : Nat} (ht : P.underlying t = some (.slice e)) (hi : (P.info? e).map (·.size) = some size)
    {A : Option Addr} {b off n c j : Nat} (hA : A = some ⟨b, off, none⟩) (hj : j < n) :
    (Instr.indexAt t (.slice A n c) (.int .i64 (j : Int))).run P w = .ok (.pointer (some ⟨b, off + j * size, none⟩)) w := by
  subst hA
  cases hq : P.info? e with
  | none => simp [hq] at hi
  | some i =>
    have hs : i.size = size := by simpa [hq] using hi
    have h0 : (0 : Int) ≤ j ∧ (j : Int) < n := by omega
    simp [Instr.indexAt, asIntOf, run_underlying ht, sizeOf, typeInfo, hq, hs, h0, addr_add0, hj]

/-- Where a slice's numbers lie. -/
def RdI (w : World) (A : Option Addr) (l : List Int) : Prop := 0 < l.length → ∃ b off, A = some ⟨b, off, none⟩ ∧ ∀ j x, l[j]? = some x → w.cell? ⟨b, off + j, none⟩ = some (.int .i64 x)
theorem RdI.fr {S : List Nat} {w w' : World} {A : Option Addr} {l : List Int} (h : RdI w A l) (hf : Fr S w w') (hS : ∀ b off, A = some ⟨b, off, none⟩ → b ∉ S) : RdI w' A l := by
  intro hl
  obtain ⟨b, off, hA, hc⟩ := h hl
  refine ⟨b, off, hA, fun j x hx => ?_⟩
  have h1 := hc j x hx
  rw [hf.cell (p := ⟨b, off + j, none⟩) (World.block_lt_of_cell? _ _ h1) (hS b off hA)]
  exact h1

theorem RdI.fr0 {S : List Nat} {w w' : World} {A : Option Addr} {l : List Int} (h : RdI w A l) (hf : Fr S w w') (hS : 0 < l.length → ∀ b off, A = some ⟨b, off, none⟩ → b ∉ S) : RdI w' A l := fun hl => h.fr hf (hS hl) hl

theorem Fr.thenBelow {S : List Nat} {w0 w w' : World} (h : Fr S w0 w) (k : Below w0.heap.size w w') : Fr S w0 w' :=
  ⟨k.os.trans h.os, k.tape.trans h.tape, k.output.trans h.output, Nat.le_trans h.size k.size, fun i hi hn => (k.block i hi).trans (h.block i hi hn)⟩
theorem own_fr {w w' : World} {base : Nat} {e : TypeId} {size : Nat} {v : Value} {n : Nat} {xs : List Value} {S : List Nat} (h : w.ownsRow base e size v n xs) (hf : Fr S w w') (hn : ∀ k, v.ownBlock = some k → k ∉ S) : w'.ownsRow base e size v n xs := by
  refine ⟨h.1, ?_⟩
  rcases h.2 with h0 | ⟨g, cap, cur, rfl, hb, hg, r⟩
  · exact .inl h0
  · exact .inr ⟨g, cap, cur, rfl, hb, (hf.block g (Array.getElem?_eq_some_iff.1 hg).1 (hn g rfl)).trans hg, r⟩
theorem own_mono {w : World} {base base' : Nat} {e : TypeId} {size : Nat} {v : Value} {n : Nat} {xs : List Value} (h : w.ownsRow base e size v n xs) (hb : base' ≤ base) : w.ownsRow base' e size v n xs := by
  refine ⟨h.1, ?_⟩
  rcases h.2 with h0 | ⟨g, cap, cur, rfl, hb', r⟩
  · exact .inl h0
  · exact .inr ⟨g, cap, cur, rfl, by omega, r⟩

theorem own_blk_ne {w : World} {g base : Nat} {e t : TypeId} {size n : Nat} {v : Value} {xs : List Value} {cs : Array Value} (h : w.ownsRow base e size v n xs) (hg : Blk w g t cs) (hne : e ≠ t) : v.ownBlock ≠ some g := by
  rcases h.2 with ⟨rfl, _⟩ | ⟨g', cap, cur, rfl, _, hh, _⟩
  · simp [Value.ownBlock]
  · intro he
    have : g' = g := by simpa [Value.ownBlock] using he
    subst this
    exact Blk.ne_ (t := e) hh hg hne rfl
theorem grown_fr {w w' : World} {v : Value} {S : List Nat} (hg : w.grownBy w' v.ownBlock) (hk : ∀ k, v.ownBlock = some k → k ∈ S) : Fr S w w' :=
  (Fr.refl S w).grown hg (fun k h => .inl (hk k h))

theorem own_form {w : World} {base : Nat} {e : TypeId} {v : Value} {n : Nat} {l : List UInt8} (h : w.ownsRow base e 1 v n (u8s l)) :
    ∃ A c, v = .slice A l.length c ∧ w.ownsRow base e 1 (.slice A l.length c) l.length (u8s l) := by
  have hn : n = l.length := by have := h.1; simp at this; omega
  subst hn
  have h' := h
  rcases h.2 with ⟨rfl, h0⟩ | ⟨g, cap, cur, rfl, hb, hg, hnc, _, hsz, htk⟩
  · exact ⟨none, 0, by rw [h0], by rw [h0] at h' ⊢; exact h'⟩
  · exact ⟨_, cap, rfl, h'⟩

/-- A slice of bytes of the call's own, as the reader sees it. -/
theorem own_rd {w : World} {base : Nat} {e : TypeId} {v : Value} {n : Nat} {l : List UInt8} (h : w.ownsRow base e 1 v n (u8s l)) :
    ∃ A c, v = .slice A l.length c ∧ n = l.length ∧ l.length ≤ c ∧ Rd w A l ∧ (∀ b off, A = some ⟨b, off, none⟩ → base ≤ b ∧ off = 0 ∧ v.ownBlock = some b ∧ b < w.heap.size) ∧ (∀ ad, A = some ad → ad = ⟨ad.block, 0, none⟩) := by
  have hn : n = l.length := by have := h.1; simp at this; omega
  subst hn
  rcases h.2 with ⟨rfl, h0⟩ | ⟨g, cap, cur, rfl, hb, hg, hnc, _, hsz, htk⟩
  · refine ⟨none, 0, by rw [h0], rfl, by omega, fun hl => by omega, by simp, by simp⟩
  · refine ⟨_, cap, rfl, rfl, hnc, fun hl => ⟨g, 0, rfl, fun j x hx => ?_⟩, fun b off hA => ?_, fun ad hA => by cases hA; rfl⟩
    · have hj : j < l.length := (List.getElem?_eq_some_iff.1 hx).1
      have := h.cellAt j (by omega)
      rw [Nat.zero_add, this, u8s_get, hx]; rfl
    · cases hA
      exact ⟨hb, rfl, rfl, (Array.getElem?_eq_some_iff.1 hg).1⟩
end Go.Proofs.Ytmmjihkcofgmmaa

/- SHA-256: words, turns. -/
namespace Go.Proofs.Ytmmjihkcofgmmaa
open Go.RowKit

def u32v (x : UInt32) : Value := .int .u32 (x.toNat : Int)
def u32s (l : List UInt32) : List Value := l.map u32v
theorem u32s_get (l : List UInt32) (i : Nat) : (u32s l)[i]? = (l[i]?).map u32v := by simp [u32s]
@[simp] theorem u32s_length (l : List UInt32) : (u32s l).length = l.length := by simp [u32s]
theorem u32s_one (l : List UInt32) : ∀ v ∈ u32s l, v.oneCell' = true := by intro v hv; simp only [u32s, List.mem_map] at hv; obtain ⟨x, _, rfl⟩ := hv; rfl

theorem u32_lt (x : UInt32) : x.toNat < 4294967296 := x.toNat_lt
theorem w_xor (a b : UInt32) : bits .xor .u32 (a.toNat : Int) (b.toNat : Int) = ((a ^^^ b).toNat : Int) := by rw [u32_xor_nat _ _ (u32_lt a) (u32_lt b), UInt32.toNat_xor]
theorem w_and (a b : UInt32) : bits .and .u32 (a.toNat : Int) (b.toNat : Int) = ((a &&& b).toNat : Int) := by rw [u32_and_nat _ _ (u32_lt a) (u32_lt b), UInt32.toNat_and]
theorem w_or (a b : UInt32) : bits .or .u32 (a.toNat : Int) (b.toNat : Int) = ((a ||| b).toNat : Int) := by rw [u32_or_nat _ _ (u32_lt a) (u32_lt b), UInt32.toNat_or]
theorem w_add (a b : UInt32) : ((a.toNat : Int) + (b.toNat : Int)) % 4294967296 = ((a + b).toNat : Int) := by rw [UInt32.toNat_add]; omega
theorem w_shr (a : UInt32) (n : Nat) (hn : n < 32) : (a.toNat : Int) / 2 ^ n = ((a >>> UInt32.ofNat n).toNat : Int) := by
  rw [UInt32.toNat_shiftRight, UInt32.toNat_ofNat', Nat.mod_eq_of_lt (by omega : n < 2 ^ 32), Nat.mod_eq_of_lt hn, Nat.shiftRight_eq_div_pow]
  simp
theorem w_shl (a : UInt32) (n : Nat) (hn : n < 32) : ((a.toNat : Int) * 2 ^ n) % 4294967296 = ((a <<< UInt32.ofNat n).toNat : Int) := by
  rw [UInt32.toNat_shiftLeft, UInt32.toNat_ofNat', Nat.mod_eq_of_lt (by omega : n < 2 ^ 32), Nat.mod_eq_of_lt hn, Nat.shiftLeft_eq]
  simp
theorem w_not (a : UInt32) : 4294967295 - (a.toNat : Int) = ((~~~a).toNat : Int) := by
  rw [UInt32.toNat_not]
  have := u32_lt a
  have e : UInt32.size = 4294967296 := rfl
  omega

theorem run_index_arr {P : Program} {t e : TypeId} {n : Nat} (ht : P.underlying t = some (.array n e)) (hi : (P.info? e).map (·.size) = some 1) {b j : Nat} (hj : j < n) (i : Int) (hij : i = (j : Int)) (w : World) :
    (Instr.indexAt t (.pointer (some ⟨b, 0, none⟩)) (.int .i64 i)).run P w = .ok (.pointer (some ⟨b, j, none⟩)) w := by
  subst hij
  cases hq : P.info? e with
  | none => simp [hq] at hi
  | some i =>
    have hs : i.size = 1 := by simpa [hq] using hi
    have h0 : (0 : Int) ≤ j ∧ (j : Int) < n := by omega
    simp [Instr.indexAt, asIntOf, run_underlying ht, sizeOf, typeInfo, hq, hs, h0, addr_add0, hj, Instr.sureAddr]
theorem sizeW : (Try.prog.info? 108).map (·.size) = some 1 := by kernel_rfl

/-- turned right by n, from 1 to 31 -/
def rotr (x : UInt32) (n : Nat) : UInt32 := (x >>> UInt32.ofNat n) ||| (x <<< UInt32.ofNat (32 - n))

theorem rot_amount : ∀ n : Nat, n < 32 → 1 ≤ n → bits .and .u64 (IntKind.u64.wrap (-(n : Int))) 31 = ((32 - n : Nat) : Int) := by decide +kernel
theorem rot_eq (x : UInt32) (n : Nat) (h1 : 1 ≤ n) (h2 : n ≤ 31) : bits .or .u32 ((x.toNat : Int) / 2 ^ n) ((x.toNat : Int) * 2 ^ (32 - n) % 4294967296) = ((rotr x n).toNat : Int) := by
  rw [w_shr x n (by omega), w_shl x (32 - n) (by omega), w_or]; rfl
theorem rot_eq' (x : UInt32) (n : Nat) (h1 : 1 ≤ n) (h2 : n ≤ 31) : bits .or .u32 ((x.toNat : Int) * 2 ^ (32 - n) % 4294967296) ((x.toNat : Int) / 2 ^ n) = ((rotr x n).toNat : Int) := by
  rw [w_shr x n (by omega), w_shl x (32 - n) (by omega), w_or, UInt32.or_comm]; rfl

theorem rot_calls (w : World) (x : UInt32) (n : Nat) (h1 : 1 ≤ n) (h2 : n ≤ 31) (k : Int) (hk : k = -(n : Int)) :
    Calls Try.prog 80 #[.int .u32 (x.toNat : Int), .int .i64 k] w fun e w' => e = .returned (.int .u32 ((rotr x n).toNat : Int)) ∧ w = w' := by
  have hx := u32_lt x
  obtain ⟨s, hs⟩ : ∃ s, 32 - n = s := ⟨_, rfl⟩
  have hs2 : bits .and .u64 (IntKind.u64.wrap k) 31 = (s : Int) := by rw [hk, rot_amount n (by omega) h1, hs]
  have hs3 : s ≤ 31 ∧ 1 ≤ s := by omega
  have hn : 32 - s = n := by omega
  have he := rot_eq' x n h1 h2
  rw [hs] at he
  have HE := Lib.hid he
  clear he hk hs
  go_enter Try.func80, Try.ntmps80
  go_wp2
  go_ret
  exact ⟨congrArg (fun x => Ending.returned (Value.int .u32 x)) (by rw [← HE.out]), rfl⟩
theorem turned_calls (w : World) (x : UInt32) (n : Nat) (h1 : 1 ≤ n) (h2 : n ≤ 31) :
    Calls Try.prog 75 #[.int .u32 (x.toNat : Int), .int .u64 (n : Int)] w fun e w' => e = .returned (.int .u32 ((rotr x n).toNat : Int)) ∧ w = w' := by
  have hx := u32_lt x
  have HE := Lib.hid (rot_eq x n h1 h2)
  go_enter Try.func75, Try.ntmps75
  go_wp2
  go_ret
  exact ⟨congrArg (fun x => Ending.returned (Value.int .u32 x)) HE.out, rfl⟩
end Go.Proofs.Ytmmjihkcofgmmaa

/- SHA-256: the schedule. -/
namespace Go.Proofs.Ytmmjihkcofgmmaa
open Go.RowKit
set_option linter.unusedVariables false

def sg0 (x : UInt32) : UInt32 := rotr x 7 ^^^ rotr x 18 ^^^ (x >>> UInt32.ofNat 3)
def sg1 (y : UInt32) : UInt32 := rotr y 17 ^^^ rotr y 19 ^^^ (y >>> UInt32.ofNat 10)
def byteW (b : List UInt8) (i : Nat) : Nat := (b.getD i 0).toNat
/-- word i of a block's first sixteen -/
def wordB (b : List UInt8) (i : Nat) : UInt32 := UInt32.ofNat (byteW b (4 * i) * 16777216 + byteW b (4 * i + 1) * 65536 + byteW b (4 * i + 2) * 256 + byteW b (4 * i + 3))
def Wf (b : List UInt8) (n : Nat) : UInt32 :=
  if h : n < 16 then wordB b n else Wf b (n - 16) + sg0 (Wf b (n - 15)) + Wf b (n - 7) + sg1 (Wf b (n - 2))
termination_by n
def st (b : List UInt8) (i : Nat) : List UInt32 := (List.range 64).map fun j => if j < i then Wf b j else 0
theorem st_length (b : List UInt8) (i : Nat) : (st b i).length = 64 := by simp [st]
theorem st_get (b : List UInt8) (i j : Nat) (hj : j < i) (h64 : j < 64) : (st b i)[j]? = some (Wf b j) := by simp [st, h64, hj]
theorem st_set (b : List UInt8) (i : Nat) : (st b i).set i (Wf b i) = st b (i + 1) := by
  apply List.ext_getElem?
  intro j
  rw [List.getElem?_set]
  simp only [st, List.length_map, List.length_range, List.getElem?_map]
  by_cases hij : i = j
  · subst hij
    by_cases h : i < 64
    · simp [h]
    · simp [h]
  · simp only [hij, if_false]
    by_cases h : j < 64
    · have : (j < i) = (j < i + 1) := by simp; omega
      simp [h, this]
    · simp [h]
theorem st_zero (b : List UInt8) : st b 0 = List.replicate 64 0 := by
  apply List.ext_getElem?
  intro j
  rw [List.getElem?_replicate]
  simp only [st, List.getElem?_map, Nat.not_lt_zero, if_false]
  by_cases h : j < 64 <;> simp [h]

def z64 : List Value := List.replicate 64 (.int .u32 0)
theorem arr64_zero : (Try.prog.info? 121).map (·.zero) = some (some (.agg z64.toArray)) := by kernel_rfl
theorem arr64_size : (Try.prog.info? 121).map (·.size) = some 64 := by kernel_rfl

theorem word_join (b : List UInt8) (k y0 y1 y2 y3 : Nat) (h0 : byteW b (4 * k) = y0) (h1 : byteW b (4 * k + 1) = y1) (h2 : byteW b (4 * k + 2) = y2) (h3 : byteW b (4 * k + 3) = y3) :
    bits .or .u32 (bits .or .u32 (bits .or .u32 ((y0 : Int) * 16777216 % 4294967296) ((y1 : Int) * 65536 % 4294967296)) ((y2 : Int) * 256 % 4294967296)) (y3 : Int) = ((wordB b k).toNat : Int) := by
  have b0 : y0 < 256 := by rw [← h0]; exact UInt8.toNat_lt _
  have b1 : y1 < 256 := by rw [← h1]; exact UInt8.toNat_lt _
  have b2 : y2 < 256 := by rw [← h2]; exact UInt8.toNat_lt _
  have b3 : y3 < 256 := by rw [← h3]; exact UInt8.toNat_lt _
  have e : (wordB b k).toNat = y0 * 16777216 + y1 * 65536 + y2 * 256 + y3 := by
    unfold wordB
    rw [h0, h1, h2, h3, UInt32.toNat_ofNat']
    omega
  rw [e,
    show (y0 : Int) * 16777216 % 4294967296 = ((2 ^ 24 * y0 : Nat) : Int) by omega, show (y1 : Int) * 65536 % 4294967296 = ((2 ^ 16 * y1 : Nat) : Int) by omega, show (y2 : Int) * 256 % 4294967296 = ((2 ^ 8 * y2 : Nat) : Int) by omega,
    u32_or_nat _ _ (by omega) (by omega), ← Nat.two_pow_add_eq_or_of_lt (by omega : 2 ^ 16 * y1 < 2 ^ 24)]
  rw [show 2 ^ 24 * y0 + 2 ^ 16 * y1 = 2 ^ 16 * (256 * y0 + y1) by omega, u32_or_nat _ _ (by omega) (by omega), ← Nat.two_pow_add_eq_or_of_lt (by omega : 2 ^ 8 * y2 < 2 ^ 16)]
  rw [show 2 ^ 16 * (256 * y0 + y1) + 2 ^ 8 * y2 = 2 ^ 8 * (65536 * y0 + 256 * y1 + y2) by omega, u32_or_nat _ _ (by omega) (by omega), ← Nat.two_pow_add_eq_or_of_lt (by omega : y3 < 2 ^ 8)]
  omega
theorem w_div8 (x : UInt32) : (x.toNat : Int) / 8 = ((x >>> UInt32.ofNat 3).toNat : Int) := w_shr x 3 (by omega)
theorem w_div1024 (x : UInt32) : (x.toNat : Int) / 1024 = ((x >>> UInt32.ofNat 10).toNat : Int) := w_shr x 10 (by omega)
theorem word_step (b : List UInt8) (n : Nat) :
    (((Wf b n).toNat : Int) + bits .xor .u32 (bits .xor .u32 ((rotr (Wf b (n + 1)) 7).toNat : Int) ((rotr (Wf b (n + 1)) 18).toNat : Int)) (((Wf b (n + 1)).toNat : Int) / 8) + ((Wf b (n + 9)).toNat : Int) +
      bits .xor .u32 (bits .xor .u32 ((rotr (Wf b (n + 14)) 17).toNat : Int) ((rotr (Wf b (n + 14)) 19).toNat : Int)) (((Wf b (n + 14)).toNat : Int) / 1024)) % 4294967296 = ((Wf b (n + 16)).toNat : Int) := by
  have e : Wf b (n + 16) = Wf b n + sg0 (Wf b (n + 1)) + Wf b (n + 9) + sg1 (Wf b (n + 14)) := by
    rw [Wf, dif_neg (by omega), show n + 16 - 16 = n by omega, show n + 16 - 15 = n + 1 by omega, show n + 16 - 7 = n + 9 by omega, show n + 16 - 2 = n + 14 by omega]
  rw [w_div8, w_div1024, w_xor, w_xor, w_xor, w_xor, e, UInt32.toNat_add, UInt32.toNat_add, UInt32.toNat_add]
  unfold sg0 sg1
  omega
theorem sizeU8s : (Try.prog.info? 5).map (·.size) = some 1 := by kernel_rfl
def Agg (v : Value) (w : World) (e : Ending) (w' : World) : Prop := e = .returned v ∧ Fr [] w w'
set_option maxRecDepth 100000 in
set_option maxHeartbeats 1000000 in
theorem sched_calls (w : World) (A : Option Addr) (c : Nat) (b : List UInt8) (hb : b.length = 64) (hA : Rd w A b) (hc : 64 ≤ c) :
    Calls Try.prog 78 #[.slice A 64 c] w (Agg (.agg (u32s (st b 64)).toArray) w) := by
  have HA := Lib.hid hA
  have HB := Lib.hid hb
  clear hA hb
  go_enter Try.func78, Try.ntmps78
  go_wp2_with (refine wpList_alloc_agg rfl 121 rfl z64.toArray arr64_zero ?_)
  have hb0 := (Blk.new w 121 z64.toArray).alloc (.cells z64.toArray 121)
  have hb1 := Blk.new (w.alloc (.cells z64.toArray 121)) 121 z64.toArray
  rw [show (w.alloc (.cells z64.toArray 121)).heap.size = w.heap.size + 1 by simp, show z64.toArray = (u32s (st b 0)).toArray by rw [st_zero]; simp [z64, u32s, u32v]] at hb1
  have hf0 := ((Fr.refl [] w).alloc (.cells z64.toArray 121)).alloc (.cells z64.toArray 121)
  have HB0 := Lib.hid hb0; have HB1 := Lib.hid hb1; have HF0 := Lib.hid hf0
  clear hb0 hb1 hf0
  go_loopg [10] 16 (fun gg u wr => ∃ k : Nat, k ≤ 16 ∧ gg = 16 - k ∧ u = .int .i64 k ∧ Blk wr (w.heap.size + 1) 121 (u32s (st b k)).toArray ∧ Blk wr w.heap.size 121 z64.toArray ∧ Fr [] w wr)
  case atStart => exact ⟨0, by omega, by omega, rfl, by simpa [st_zero, u32s, u32v, z64] using HB1.out, HB0.out, HF0.out⟩
  case round =>
    obtain ⟨k, hk, rfl, rfl, h1, h0, hf⟩ := hrel
    have H1 := Lib.hid h1; have H0 := Lib.hid h0; have HF := Lib.hid hf
    have hz := h1.frozen k
    clear h1 h0 hf
    by_cases hlt : k < 16
    · obtain ⟨bb, off, hAe, hcell⟩ := HA.out.fr HF.out (by simp) (by have := HB.out; omega)
      have hbx : ∀ j, 4 * k + j < 64 → wr.cell? ⟨bb, off + (4 * k + j), none⟩ = some (.int .u8 (byteW b (4 * k + j) : Int)) := fun j hj => by
        have := HB.out
        rw [hcell (4 * k + j) b[4 * k + j] (by simp)]
        simp [u8v, byteW, List.getD, show 4 * k + j < b.length by omega]
      have x0 := hbx 0 (by omega)
      have x1 := hbx 1 (by omega)
      have x2 := hbx 2 (by omega)
      have x3 := hbx 3 (by omega)
      have hix : ∀ j, 4 * k + j < 64 → ∀ w, (Instr.indexAt 26 (.slice A 64 c) (.int .i64 ((4 * k + j : Nat) : Int))).run Try.prog w = .ok (.pointer (some ⟨bb, off + (4 * k + j), none⟩)) w := fun j hj w => by
        simpa using run_index_slice' (P := Try.prog) w Try.underlying26 sizeU8s (n := 64) (c := c) hAe hj
      have i0 := hix 0 (by omega)
      have i1 := hix 1 (by omega)
      have i2 := hix 2 (by omega)
      have i3 := hix 3 (by omega)
      simp only [Nat.add_zero, show ((4 * k : Nat) : Int) = 4 * (k : Int) by omega] at i0 x0
      simp only [show ((4 * k + 1 : Nat) : Int) = 4 * (k : Int) + 1 by omega] at i1
      simp only [show ((4 * k + 2 : Nat) : Int) = 4 * (k : Int) + 2 by omega] at i2
      simp only [show ((4 * k + 3 : Nat) : Int) = 4 * (k : Int) + 3 by omega] at i3
      obtain ⟨y0, hy0⟩ : ∃ y, byteW b (4 * k) = y := ⟨_, rfl⟩
      obtain ⟨y1, hy1⟩ : ∃ y, byteW b (4 * k + 1) = y := ⟨_, rfl⟩
      obtain ⟨y2, hy2⟩ : ∃ y, byteW b (4 * k + 2) = y := ⟨_, rfl⟩
      obtain ⟨y3, hy3⟩ : ∃ y, byteW b (4 * k + 3) = y := ⟨_, rfl⟩
      have hyb : y0 < 256 ∧ y1 < 256 ∧ y2 < 256 ∧ y3 < 256 := by
        rw [← hy0, ← hy1, ← hy2, ← hy3]; exact ⟨UInt8.toNat_lt _, UInt8.toNat_lt _, UInt8.toNat_lt _, UInt8.toNat_lt _⟩
      have hW := word_join b k y0 y1 y2 y3 hy0 hy1 hy2 hy3
      have HW := Lib.hid hW
      rw [hy0] at x0; rw [hy1] at x1; rw [hy2] at x2; rw [hy3] at x3
      have q0 : IntKind.u32.wrap (y0 : Int) = (y0 : Int) := by rw [IntKind.wrap_u32']; omega
      have q1 : IntKind.u32.wrap (y1 : Int) = (y1 : Int) := by rw [IntKind.wrap_u32']; omega
      have q2 : IntKind.u32.wrap (y2 : Int) = (y2 : Int) := by rw [IntKind.wrap_u32']; omega
      have q3 : IntKind.u32.wrap (y3 : Int) = (y3 : Int) := by rw [IntKind.wrap_u32']; omega
      have m0 : IntKind.i64.wrap (4 * (k : Int)) = 4 * (k : Int) := by rw [IntKind.wrap_i64]; omega
      have m1 : IntKind.i64.wrap (4 * (k : Int) + 1) = 4 * (k : Int) + 1 := by rw [IntKind.wrap_i64]; omega
      have m2 : IntKind.i64.wrap (4 * (k : Int) + 2) = 4 * (k : Int) + 2 := by rw [IntKind.wrap_i64]; omega
      have m3 : IntKind.i64.wrap (4 * (k : Int) + 3) = 4 * (k : Int) + 3 := by rw [IntKind.wrap_i64]; omega
      obtain ⟨old, hold⟩ : ∃ old, wr.cell? ⟨w.heap.size + 1, k, none⟩ = some old := by
        rw [H1.out.cell, List.getElem?_toArray]
        exact ⟨(u32s (st b k))[k]'(by simp [st_length]; omega), by simp⟩
      have ixk := fun w' => run_index_arr (P := Try.prog) (b := w.heap.size + 1) Try.underlying121 sizeW (show k < 64 by omega) (k : Int) rfl w'
      clear hy0 hy1 hy2 hy3 hW hyb
      have hkI : (0 : Int) ≤ (k : Int) ∧ (k : Int) < 16 := by omega
      clear hbx hix hcell hAe
      go_wp2
      go_still_tail 35, (by kernel_rfl)
      change wpList _ _ _ _ _ wr.drew
      go_wp2
      go_roundg (16 - (k + 1))
      case measure => omega
      case rel =>
        have hb2 := H1.out.set_ k (.int .u32 ((wordB b k).toNat : Int))
        have e : (u32s (st b k)).toArray.setIfInBounds k (.int .u32 ((wordB b k).toNat : Int)) = (u32s (st b (k + 1))).toArray := by
          rw [← st_set, show Wf b k = wordB b k by rw [Wf]; simp [hlt]]
          simp [u32s, List.map_set, u32v]
        rw [e] at hb2
        rw [HW.out]
        exact ⟨k + 1, by omega, rfl, by go_num, hb2.drew, (H0.out.far (p := ⟨w.heap.size + 1, k, none⟩) (by simp) _).drew, (HF.out.setCell (.inr (by simp)) _).drew⟩
    · obtain rfl : k = 16 := by omega
      clear hz
      go_wp2_with fail
      obtain ⟨wo, rfl⟩ : ∃ wo : World, wo = wr := ⟨_, rfl⟩
      go_loopg [5] 48 (fun gg u wr => ∃ n : Nat, n ≤ 48 ∧ gg = 48 - n ∧ u = .int .i64 ((n : Int) + 16) ∧ Blk wr (w.heap.size + 1) 121 (u32s (st b (n + 16))).toArray ∧ Blk wr w.heap.size 121 z64.toArray ∧ Fr [] w wr)
      case atStart => exact ⟨0, by omega, by omega, rfl, H1.out, H0.out, HF.out⟩
      case round =>
        obtain ⟨n, hn, rfl, rfl, h1, h0, hf⟩ := hrel
        have H1 := Lib.hid h1; have H0 := Lib.hid h0; have HF := Lib.hid hf
        have hz := h1.frozen (n + 16)
        by_cases hlt : n < 48
        · have hg : ∀ j, j < n + 16 → wr.cell? ⟨w.heap.size + 1, j, none⟩ = some (.int .u32 ((Wf b j).toNat : Int)) := fun j hj => by
            rw [h1.cell, List.getElem?_toArray, u32s_get, st_get b _ j hj (by omega)]; rfl
          have c0 := hg n (by omega)
          have c1 := hg (n + 1) (by omega)
          have c9 := hg (n + 9) (by omega)
          have c14 := hg (n + 14) (by omega)
          have ix := fun (j : Nat) (hj : j < 64) (i : Int) (hij : i = (j : Int)) w' => run_index_arr (P := Try.prog) (b := w.heap.size + 1) Try.underlying121 sizeW hj i hij w'
          have i0 := ix n (by omega) n rfl
          have i1 := ix (n + 1) (by omega) ((n : Int) + 1) (by omega)
          have i9 := ix (n + 9) (by omega) ((n : Int) + 9) (by omega)
          have i14 := ix (n + 14) (by omega) ((n : Int) + 14) (by omega)
          have i16 := ix (n + 16) (by omega) ((n : Int) + 16) (by omega)
          have hnI : (0 : Int) ≤ (n : Int) ∧ (n : Int) < 48 := by omega
          have hlI : (n : Int) + 16 < 64 := by omega
          have v1 : IntKind.i64.wrap ((n : Int) + 16 - 15) = (n : Int) + 1 := by rw [IntKind.wrap_i64]; omega
          have v14 : IntKind.i64.wrap ((n : Int) + 16 - 2) = (n : Int) + 14 := by rw [IntKind.wrap_i64]; omega
          have v0 : IntKind.i64.wrap ((n : Int) + 16 - 16) = (n : Int) := by rw [IntKind.wrap_i64]; omega
          have v00 : IntKind.i64.wrap (n : Int) = (n : Int) := by rw [IntKind.wrap_i64]; omega
          have v16 : IntKind.i64.wrap ((n : Int) + 16) = (n : Int) + 16 := by rw [IntKind.wrap_i64]; omega
          have v19 : IntKind.i64.wrap ((n : Int) + 9) = (n : Int) + 9 := by rw [IntKind.wrap_i64]; omega
          have v9 : IntKind.i64.wrap ((n : Int) + 16 - 7) = (n : Int) + 9 := by rw [IntKind.wrap_i64]; omega
          obtain ⟨old, hold⟩ : ∃ old, wr.cell? ⟨w.heap.size + 1, n + 16, none⟩ = some old := by
            rw [H1.out.cell, List.getElem?_toArray]
            exact ⟨(u32s (st b (n + 16)))[n + 16]'(by simp [st_length]; omega), by simp⟩
          have R7 := Lib.hid (fun w' => rot_calls w' (Wf b (n + 1)) 7 (by omega) (by omega) (-7) rfl)
          have R18 := Lib.hid (fun w' => rot_calls w' (Wf b (n + 1)) 18 (by omega) (by omega) (-18) rfl)
          have R17 := Lib.hid (fun w' => rot_calls w' (Wf b (n + 14)) 17 (by omega) (by omega) (-17) rfl)
          have R19 := Lib.hid (fun w' => rot_calls w' (Wf b (n + 14)) 19 (by omega) (by omega) (-19) rfl)
          clear h1 h0 hf hg ix
          go_wp2_with fail
          go_quiet (fail)
          go_wp2_with (first
            | (go_at_call 80; (with_reducible refine (R7.out _).mono ?_); rintro e w2 ⟨rfl, rfl⟩)
            | (go_at_call 80; (with_reducible refine (R18.out _).mono ?_); rintro e w2 ⟨rfl, rfl⟩)
            | (go_at_call 80; (with_reducible refine (R17.out _).mono ?_); rintro e w2 ⟨rfl, rfl⟩)
            | (go_at_call 80; (with_reducible refine (R19.out _).mono ?_); rintro e w2 ⟨rfl, rfl⟩))
          have c0' : (wr.drewN nq).cell? ⟨w.heap.size + 1, n, none⟩ = some (.int .u32 ((Wf b n).toNat : Int)) := c0
          have c9' : (wr.drewN nq).cell? ⟨w.heap.size + 1, n + 9, none⟩ = some (.int .u32 ((Wf b (n + 9)).toNat : Int)) := c9
          have hold' : (wr.drewN nq).cell? ⟨w.heap.size + 1, n + 16, none⟩ = some old := hold
          have hz' : (wr.drewN nq).frozen? ⟨w.heap.size + 1, n + 16, none⟩ = false := hz
          have H1' := Lib.hid (H1.out.drewN nq); have H0' := Lib.hid (H0.out.drewN nq); have HF' := Lib.hid (HF.out.drewN nq)
          have HS := Lib.hid (word_step b n)
          obtain ⟨w5, hw5⟩ : ∃ w5, wr.drewN nq = w5 := ⟨_, rfl⟩
          rw [hw5] at c0' c9' hold' hz' H1' H0' HF' ⊢
          clear c0 c1 c9 c14 hold hz
          go_still_tail 15, (by kernel_rfl)
          change wpList _ _ _ _ _ _
          go_wp2
          go_roundg (48 - (n + 1))
          case measure => omega
          case rel =>
            have e9 : ∀ v : Int, v = ((Wf b (n + 16)).toNat : Int) → (u32s (st b (n + 16))).toArray.setIfInBounds (n + 16) (.int .u32 v) = (u32s (st b (n + 1 + 16))).toArray := fun v hv => by
              rw [hv, show n + 1 + 16 = n + 16 + 1 by omega, ← st_set b (n + 16)]
              simp [u32s, List.map_set, u32v]
            refine ⟨n + 1, by omega, rfl, by go_num, ?_, (H0'.out.far (p := ⟨w.heap.size + 1, n + 16, none⟩) (by simp) _).drew, (HF'.out.setCell (.inr (by simp)) _).drew⟩
            have hb2 := (H1'.out.set_ (n + 16) (.int .u32 ((Wf b (n + 16)).toNat : Int))).drew
            rw [e9 _ rfl] at hb2
            rw [HS.out]
            exact hb2
        · obtain rfl : n = 48 := by omega
          have hU : (u32s (st b 64)).length = 64 := by simp [st_length]
          have HU := Lib.hid hU
          have HC := Lib.hid (show ∀ j v, (u32s (st b 64))[j]? = some v → wr.cell? ⟨w.heap.size + 1, 0 + j, none⟩ = some v from fun j v hv => by rw [H1.out.cell, List.getElem?_toArray, Nat.zero_add]; exact hv)
          have hz64 : z64.length = 64 := by simp [z64]
          have hspl : splice z64 0 (u32s (st b 64)) = u32s (st b 64) := by simp [splice, hU, hz64]
          have HSP := Lib.hid hspl
          clear hU hz64 hspl hz h1 h0 hf
          go_wp2_with (first
            | (refine wpList_load_agg rfl 121 (.tmp 3) rfl (w.heap.size + 1) 0 rfl (u32s (st b 64)) _ HC.out Try.underlying121 rfl (by rw [HU.out]; exact arr64_size) ?_)
            | (refine wpList_store_agg rfl 121 (.tmp 2) (.tmp 92) rfl w.heap.size 0 rfl (u32s (st b 64)) rfl z64 121 H0.out (by rw [HU.out]; decide) (u32s_one _) (by rw [HU.out]; exact arr64_size) ?_))
          have hb6 := H0.out.setRow_ (splice z64 0 (u32s (st b 64))).toArray
          rw [HSP.out] at hb6 ⊢
          refine bodyPost_ret (results_cell_row (p := 2) (ty := 121) rfl _ _ w.heap.size 121 (u32s (st b 64)).toArray (0, 0) _ rfl hb6 Try.underlying121 rfl (by rw [List.size_toArray, HU.out]; exact arr64_size)) rfl ?_
          exact ⟨rfl, HF.out.setRow (.inr (Nat.le_refl _)) _⟩
end Go.Proofs.Ytmmjihkcofgmmaa

/- SHA-256: the rounds' words, the first words. -/
namespace Go.Proofs.Ytmmjihkcofgmmaa
open Go.RowKit

def Kw : List UInt32 := [1116352408, 1899447441, 3049323471, 3921009573, 961987163, 1508970993, 2453635748, 2870763221,
  3624381080, 310598401, 607225278, 1426881987, 1925078388, 2162078206, 2614888103, 3248222580,
  3835390401, 4022224774, 264347078, 604807628, 770255983, 1249150122, 1555081692, 1996064986,
  2554220882, 2821834349, 2952996808, 3210313671, 3336571891, 3584528711, 113926993, 338241895,
  666307205, 773529912, 1294757372, 1396182291, 1695183700, 1986661051, 2177026350, 2456956037,
  2730485921, 2820302411, 3259730800, 3345764771, 3516065817, 3600352804, 4094571909, 275423344,
  430227734, 506948616, 659060556, 883997877, 958139571, 1322822218, 1537002063, 1747873779,
  1955562222, 2024104815, 2227730452, 2361852424, 2428436474, 2756734187, 3204031479, 3329325298]
def Hw : List UInt32 := [1779033703, 3144134277, 1013904242, 2773480762, 1359893119, 2600822924, 528734635, 1541459225]
def z8 : List Value := List.replicate 8 (.int .u32 0)
theorem arr8_zero : (Try.prog.info? 116).map (·.zero) = some (some (.agg z8.toArray)) := by kernel_rfl
theorem arr8_size : (Try.prog.info? 116).map (·.size) = some 8 := by kernel_rfl

set_option maxHeartbeats 2000000 in
set_option maxRecDepth 100000 in
theorem rounds_calls (w : World) : Calls Try.prog 79 #[] w (Agg (.agg (u32s Kw).toArray) w) := by
  have HB := Lib.hid (Blk.new w 121 z64.toArray)
  have hsp : splice z64 0 (u32s Kw) = u32s Kw := by kernel_rfl
  have HSP := Lib.hid hsp
  clear hsp
  go_enter Try.func79, Try.ntmps79
  go_wp2_with (first
    | (refine wpList_alloc_agg rfl 121 rfl z64.toArray arr64_zero ?_)
    | (refine wpList_store_agg rfl 121 (.tmp 0) (.tmp 1) rfl w.heap.size 0 rfl (u32s Kw) (by kernel_rfl) z64 121 HB.out (by decide) (u32s_one _) (by exact arr64_size) ?_))
  have hb6 := HB.out.setRow_ (splice z64 0 (u32s Kw)).toArray
  rw [HSP.out] at hb6 ⊢
  refine bodyPost_ret (results_cell_row (p := 0) (ty := 121) rfl _ _ w.heap.size 121 (u32s Kw).toArray (0, 0) _ rfl hb6 Try.underlying121 rfl (by exact arr64_size)) rfl ?_
  exact ⟨rfl, ((Fr.refl [] w).alloc _).setRow (.inr (Nat.le_refl _)) _⟩
set_option maxRecDepth 100000 in
theorem begin_calls (w : World) : Calls Try.prog 76 #[] w (Agg (.agg (u32s Hw).toArray) w) := by
  have HB := Lib.hid (Blk.new w 116 z8.toArray)
  have hsp : splice z8 0 (u32s Hw) = u32s Hw := by kernel_rfl
  have HSP := Lib.hid hsp
  clear hsp
  go_enter Try.func76, Try.ntmps76
  go_wp2_with (first
    | (refine wpList_alloc_agg rfl 116 rfl z8.toArray arr8_zero ?_)
    | (refine wpList_store_agg rfl 116 (.tmp 0) (.tmp 1) rfl w.heap.size 0 rfl (u32s Hw) (by kernel_rfl) z8 116 HB.out (by decide) (u32s_one _) (by exact arr8_size) ?_))
  have hb6 := HB.out.setRow_ (splice z8 0 (u32s Hw)).toArray
  rw [HSP.out] at hb6 ⊢
  refine bodyPost_ret (results_cell_row (p := 0) (ty := 116) rfl _ _ w.heap.size 116 (u32s Hw).toArray (0, 0) _ rfl hb6 Try.underlying116 rfl (by exact arr8_size)) rfl ?_
  exact ⟨rfl, ((Fr.refl [] w).alloc _).setRow (.inr (Nat.le_refl _)) _⟩
end Go.Proofs.Ytmmjihkcofgmmaa

/- A region that draws its order, by an invariant over what has come up: one step an operation, however many orders there are. -/
namespace Go.Proofs.Ytmmjihkcofgmmaa
open Go.RowKit

variable {P : Program} {ops : Array Oper} {Q : Exit → Act → World → Prop}

def todo (l : Array Bool) : Nat := l.toList.count false
theorem todo_set {l : Array Bool} {i : Nat} (h : l.getD i true = false) : todo (l.setIfInBounds i true) + 1 = todo l := by
  have hi : i < l.size := by
    rcases Nat.lt_or_ge i l.size with h' | h'
    · exact h'
    · simp [Array.getElem?_eq_none h'] at h
  have hv : l.toList[i]'(by simpa using hi) = false := by
    simp [hi] at h
    simpa using h
  unfold todo
  rw [Array.toList_setIfInBounds]
  have : ∀ (xs : List Bool) (i : Nat) (hi : i < xs.length), xs[i] = false → (xs.set i true).count false + 1 = xs.count false := by
    intro xs
    induction xs with
    | nil => intro i hi; simp at hi
    | cons x xs ih =>
      intro i hi hx
      cases i with
      | zero => simp at hx; subst hx; simp
      | succ i =>
        simp only [List.set_cons_succ, List.count_cons]
        have := ih i (by simpa using hi) (by simpa using hx)
        omega
  exact this _ i (by simpa using hi) hv
theorem wpAny_inv (Inv : Array Bool → Act → World → Prop)
    (hstep : ∀ l a w i, Inv l a w → i ∈ Region.ready .any ops l → wpOp P ops Q i (Inv (l.setIfInBounds i true)) a w)
    (hdone : ∀ l a w, Inv l a w → Region.ready .any ops l = [] → Q .normal a w) :
    ∀ (fuel : Nat) (l : Array Bool) (a : Act) (w : World), todo l ≤ fuel → Inv l a w → wpAny P .any ops Q fuel l a w := by
  intro fuel
  induction fuel with
  | zero =>
    intro l a w ht hi
    have hr : Region.ready .any ops l = [] := by
      rw [List.eq_nil_iff_forall_not_mem]
      intro i hm
      have := todo_set (mem_ready.1 hm).1
      omega
    exact ⟨hr, hdone l a w hi hr⟩
  | succ fuel ih =>
    intro l a w ht hi
    refine ⟨fun hr => hdone l a w hi hr, fun i hm => wpOp_mono (fun a' w' h' => ih _ a' w' ?_ h') (hstep l a w i hi hm)⟩
    have := todo_set (mem_ready.1 hm).1
    omega
theorem wp_region_inv {id : Nat} {a : Act} {w : World} (hm : P.follows .mixedOrders = true) (Inv : Array Bool → Act → World → Prop)
    (h0 : Inv (Array.replicate ops.size false) a w.drew)
    (hstep : ∀ l a w i, Inv l a w → i ∈ Region.ready .any ops l → wpOp P ops Q i (Inv (l.setIfInBounds i true)) a w)
    (hdone : ∀ l a w, Inv l a w → Region.ready .any ops l = [] → Q .normal a w) : (Code.region id ops true).wp P Q a w := by
  refine wp_region_any hm (wpAny_inv Inv hstep hdone ops.size _ a w.drew ?_ h0)
  unfold todo
  simp

/-- all have come up, where none may -/
theorem all_done {l : Array Bool} (hn : l.size = ops.size) (hdep : ∀ j o, ops[j]? = some o → ∀ e ∈ o.after, Region.binds .any e = true → e.on < j) (hr : Region.ready .any ops l = []) : ∀ j, j < ops.size → l.getD j false = true := by
  intro j
  induction j using Nat.strongRecOn with
  | _ j ih =>
    intro hj
    cases hv : l.getD j false with
    | true => rfl
    | false =>
      have hmem : j ∈ Region.ready .any ops l := by
        refine mem_ready.2 ⟨?_, ops[j], by simp [hj], fun e he hb => ih e.on (hdep j _ (by simp [hj]) e he hb) (Nat.lt_trans (hdep j _ (by simp [hj]) e he hb) hj)⟩
        have hjl : j < l.size := by omega
        simp [hjl] at hv ⊢
        exact hv
      rw [hr] at hmem
      simp at hmem
def depsOk (ops : Array Oper) : Bool := ops.toList.zipIdx.all fun (o, j) => o.after.toList.all fun e => !(Region.binds .any e) || decide (e.on < j)
theorem all_done' {l : Array Bool} (hn : l.size = ops.size) (hdep : depsOk ops = true) (hr : Region.ready .any ops l = []) : ∀ j, j < ops.size → l.getD j false = true := by
  refine all_done hn (fun j o ho e he hb => ?_) hr
  unfold depsOk at hdep
  rw [List.all_eq_true] at hdep
  have h1 := hdep (o, j) (by rw [List.mem_zipIdx_iff_getElem?]; simpa using ho)
  rw [List.all_eq_true] at h1
  have h2 := h1 e (by simpa using he)
  simp [hb] at h2
  exact h2
/-- the step of one operation -/
theorem wpOp_of {i : Nat} {o : Oper} {K : Act → World → Prop} {a : Act} {w : World} (ho : ops[i]? = some o) (hg : o.guard = none) (h : Oper.wp P o a w K Q) : wpOp P ops Q i K a w := by
  unfold wpOp
  rw [ho]
  simp only [Region.wanted, hg, if_true]
  exact .inl h
end Go.Proofs.Ytmmjihkcofgmmaa

/- SHA-256: the first statement of a block's turn, whatever its order. -/
namespace Go.Proofs.Ytmmjihkcofgmmaa
open Go.RowKit

def upd (L : Nat → Bool) (i : Nat) : Nat → Bool := fun j => if j = i then true else L j
theorem getD_upd {l : Array Bool} {i : Nat} (hi : i < l.size) : (fun j => (l.setIfInBounds i true).getD j false) = upd (fun j => l.getD j false) i := by
  funext j
  unfold upd
  by_cases h : j = i
  · subst h
    simp [hi]
  · rw [if_neg h]
    simp [Ne.symm h]
@[simp] theorem upd_same (L : Nat → Bool) (i : Nat) : upd L i i = true := by simp [upd]
theorem upd_ne (L : Nat → Bool) {i j : Nat} (h : j ≠ i) : upd L i j = L j := by simp [upd, h]

structure RI (A : Option Addr) (c : Nat) (b : List UInt8) (hl : List UInt32) (w0 : World) (L : Nat → Bool) (x5 x6 x7 t14 t15 t16 t17 : Value) (w' : World) : Prop where
  fr : Fr [] w0 w'
  r0 : L 0 = true → t14 = .slice A 64 c
  r1 : L 1 = true → t15 = .agg (u32s (st b 64)).toArray
  r2 : L 2 = true → t16 = .agg (u32s Kw).toArray
  r3 : L 3 = true → t17 = .agg (u32s hl).toArray
  r4 : L 4 = true → ∃ q, x5 = .pointer (some ⟨q, 0, none⟩) ∧ w0.heap.size ≤ q ∧ Blk w' q 121 (if L 7 then u32s (st b 64) else z64).toArray
  r5 : L 5 = true → ∃ q, x6 = .pointer (some ⟨q, 0, none⟩) ∧ w0.heap.size ≤ q ∧ Blk w' q 121 (if L 8 then u32s Kw else z64).toArray
  r6 : L 6 = true → ∃ q, x7 = .pointer (some ⟨q, 0, none⟩) ∧ w0.heap.size ≤ q ∧ Blk w' q 116 (if L 9 then u32s hl else z8).toArray
  ne : L 4 = true → L 5 = true → x5 ≠ x6
  c7 : L 7 = true → L 4 = true
  c8 : L 8 = true → L 5 = true
  c9 : L 9 = true → L 6 = true

section
variable {A : Option Addr} {c : Nat} {b : List UInt8} {hl : List UInt32} {w0 w' w2 : World} {L : Nat → Bool} {x5 x6 x7 t14 t15 t16 t17 : Value}
theorem RI.start (a : World) (h : ∀ j, L j = false) (hf : Fr [] w0 a) : RI A c b hl w0 L x5 x6 x7 t14 t15 t16 t17 a :=
  ⟨hf, by simp [h], by simp [h], by simp [h], by simp [h], by simp [h], by simp [h], by simp [h], by simp [h], by simp [h], by simp [h], by simp [h]⟩
theorem RI.fr' (h : RI A c b hl w0 L x5 x6 x7 t14 t15 t16 t17 w') (hf : Fr [] w' w2) : RI A c b hl w0 L x5 x6 x7 t14 t15 t16 t17 w2 :=
  { h with
    fr := h.fr.trans hf
    r4 := fun hL => let ⟨q, e, hq, hb⟩ := h.r4 hL; ⟨q, e, hq, hb.fr hf (by simp)⟩
    r5 := fun hL => let ⟨q, e, hq, hb⟩ := h.r5 hL; ⟨q, e, hq, hb.fr hf (by simp)⟩
    r6 := fun hL => let ⟨q, e, hq, hb⟩ := h.r6 hL; ⟨q, e, hq, hb.fr hf (by simp)⟩ }
theorem RI.v0 (h : RI A c b hl w0 L x5 x6 x7 t14 t15 t16 t17 w') : RI A c b hl w0 (upd L 0) x5 x6 x7 (.slice A 64 c) t15 t16 t17 w' :=
  ⟨h.fr, fun _ => rfl, h.r1, h.r2, h.r3, h.r4, h.r5, h.r6, h.ne, h.c7, h.c8, h.c9⟩
theorem RI.v1 (h : RI A c b hl w0 L x5 x6 x7 t14 t15 t16 t17 w') : RI A c b hl w0 (upd L 1) x5 x6 x7 t14 (.agg (u32s (st b 64)).toArray) t16 t17 w' :=
  ⟨h.fr, h.r0, fun _ => rfl, h.r2, h.r3, h.r4, h.r5, h.r6, h.ne, h.c7, h.c8, h.c9⟩
theorem RI.v2 (h : RI A c b hl w0 L x5 x6 x7 t14 t15 t16 t17 w') : RI A c b hl w0 (upd L 2) x5 x6 x7 t14 t15 (.agg (u32s Kw).toArray) t17 w' :=
  ⟨h.fr, h.r0, h.r1, fun _ => rfl, h.r3, h.r4, h.r5, h.r6, h.ne, h.c7, h.c8, h.c9⟩
theorem RI.v3 (h : RI A c b hl w0 L x5 x6 x7 t14 t15 t16 t17 w') : RI A c b hl w0 (upd L 3) x5 x6 x7 t14 t15 t16 (.agg (u32s hl).toArray) w' :=
  ⟨h.fr, h.r0, h.r1, h.r2, fun _ => rfl, h.r4, h.r5, h.r6, h.ne, h.c7, h.c8, h.c9⟩
theorem RI.a4 (h : RI A c b hl w0 L x5 x6 x7 t14 t15 t16 t17 w') (h4 : L 4 = false) : RI A c b hl w0 (upd L 4) (.pointer (some ⟨w'.heap.size, 0, none⟩)) x6 x7 t14 t15 t16 t17 (w'.alloc (.cells z64.toArray 121)) := by
  have h7 : L 7 = false := by
    cases h7 : L 7 with
    | false => rfl
    | true => have := h.c7 h7; rw [h4] at this; cases this
  have k := h.fr' ((Fr.refl [] w').alloc (.cells z64.toArray 121))
  exact ⟨k.fr, k.r0, k.r1, k.r2, k.r3, fun _ => ⟨_, rfl, h.fr.size, by rw [upd_ne L (by decide : 7 ≠ 4), h7]; exact Blk.new w' _ _⟩, k.r5, k.r6,
    fun _ h5 he => by
      obtain ⟨q, e, _, hb⟩ := h.r5 h5
      rw [e] at he
      injection he with he; injection he with he; injection he with he
      have := hb.lt; omega, fun h => absurd (show L 7 = true from h) (by rw [h7]; decide), k.c8, k.c9⟩
theorem RI.a5 (h : RI A c b hl w0 L x5 x6 x7 t14 t15 t16 t17 w') (h5 : L 5 = false) : RI A c b hl w0 (upd L 5) x5 (.pointer (some ⟨w'.heap.size, 0, none⟩)) x7 t14 t15 t16 t17 (w'.alloc (.cells z64.toArray 121)) := by
  have h8 : L 8 = false := by
    cases h8 : L 8 with
    | false => rfl
    | true => have := h.c8 h8; rw [h5] at this; cases this
  have k := h.fr' ((Fr.refl [] w').alloc (.cells z64.toArray 121))
  exact ⟨k.fr, k.r0, k.r1, k.r2, k.r3, k.r4, fun _ => ⟨_, rfl, h.fr.size, by rw [upd_ne L (by decide : 8 ≠ 5), h8]; exact Blk.new w' _ _⟩, k.r6,
    fun h4 _ he => by
      obtain ⟨q, e, _, hb⟩ := h.r4 h4
      rw [e] at he
      injection he with he; injection he with he; injection he with he
      have := hb.lt; omega, k.c7, fun h => absurd (show L 8 = true from h) (by rw [h8]; decide), k.c9⟩
theorem RI.a6 (h : RI A c b hl w0 L x5 x6 x7 t14 t15 t16 t17 w') (h6 : L 6 = false) : RI A c b hl w0 (upd L 6) x5 x6 (.pointer (some ⟨w'.heap.size, 0, none⟩)) t14 t15 t16 t17 (w'.alloc (.cells z8.toArray 116)) := by
  have h9 : L 9 = false := by
    cases h9 : L 9 with
    | false => rfl
    | true => have := h.c9 h9; rw [h6] at this; cases this
  have k := h.fr' ((Fr.refl [] w').alloc (.cells z8.toArray 116))
  exact ⟨k.fr, k.r0, k.r1, k.r2, k.r3, k.r4, k.r5, fun _ => ⟨_, rfl, h.fr.size, by rw [upd_ne L (by decide : 9 ≠ 6), h9]; exact Blk.new w' _ _⟩, k.ne, k.c7, k.c8,
    fun h => absurd (show L 9 = true from h) (by rw [h9]; decide)⟩
theorem RI.s7 (h : RI A c b hl w0 L x5 x6 x7 t14 t15 t16 t17 w') (h4 : L 4 = true) (q : Nat) (hx : x5 = .pointer (some ⟨q, 0, none⟩)) : RI A c b hl w0 (upd L 7) x5 x6 x7 t14 t15 t16 t17 (w'.setRow q (u32s (st b 64)).toArray) := by
  obtain ⟨q4, e4, hq4, hb4⟩ := h.r4 h4
  have : q4 = q := by rw [e4] at hx; injection hx with hx; injection hx with hx; injection hx
  subst this
  refine ⟨h.fr.setRow (.inr hq4) _, h.r0, h.r1, h.r2, h.r3, fun _ => ⟨q4, e4, hq4, by simp only [upd_same, if_true]; exact hb4.setRow_ _⟩, fun h5 => ?_, fun h6 => ?_, h.ne, fun _ => h4, h.c8, h.c9⟩
  · obtain ⟨q5, e5, hq5, hb5⟩ := h.r5 h5
    refine ⟨q5, e5, hq5, hb5.setRow_far (fun he => ?_) _⟩
    exact h.ne h4 h5 (by rw [e4, e5, he])
  · obtain ⟨q6, e6, hq6, hb6⟩ := h.r6 h6
    exact ⟨q6, e6, hq6, hb6.setRow_far (hb6.ne_ hb4 (by decide)) _⟩
theorem RI.s8 (h : RI A c b hl w0 L x5 x6 x7 t14 t15 t16 t17 w') (h5 : L 5 = true) (q : Nat) (hx : x6 = .pointer (some ⟨q, 0, none⟩)) : RI A c b hl w0 (upd L 8) x5 x6 x7 t14 t15 t16 t17 (w'.setRow q (u32s Kw).toArray) := by
  obtain ⟨q5, e5, hq5, hb5⟩ := h.r5 h5
  have : q5 = q := by rw [e5] at hx; injection hx with hx; injection hx with hx; injection hx
  subst this
  refine ⟨h.fr.setRow (.inr hq5) _, h.r0, h.r1, h.r2, h.r3, fun h4 => ?_, fun _ => ⟨q5, e5, hq5, by simp only [upd_same, if_true]; exact hb5.setRow_ _⟩, fun h6 => ?_, h.ne, h.c7, fun _ => h5, h.c9⟩
  · obtain ⟨q4, e4, hq4, hb4⟩ := h.r4 h4
    refine ⟨q4, e4, hq4, hb4.setRow_far (fun he => ?_) _⟩
    exact h.ne h4 h5 (by rw [e4, e5, he])
  · obtain ⟨q6, e6, hq6, hb6⟩ := h.r6 h6
    exact ⟨q6, e6, hq6, hb6.setRow_far (hb6.ne_ hb5 (by decide)) _⟩
theorem RI.s9 (h : RI A c b hl w0 L x5 x6 x7 t14 t15 t16 t17 w') (h6 : L 6 = true) (q : Nat) (hx : x7 = .pointer (some ⟨q, 0, none⟩)) : RI A c b hl w0 (upd L 9) x5 x6 x7 t14 t15 t16 t17 (w'.setRow q (u32s hl).toArray) := by
  obtain ⟨q6, e6, hq6, hb6⟩ := h.r6 h6
  have : q6 = q := by rw [e6] at hx; injection hx with hx; injection hx with hx; injection hx
  subst this
  refine ⟨h.fr.setRow (.inr hq6) _, h.r0, h.r1, h.r2, h.r3, fun h4 => ?_, fun h5 => ?_, fun _ => ⟨q6, e6, hq6, by simp only [upd_same, if_true]; exact hb6.setRow_ _⟩, h.ne, h.c7, h.c8, fun _ => h6⟩
  · obtain ⟨q4, e4, hq4, hb4⟩ := h.r4 h4
    exact ⟨q4, e4, hq4, hb4.setRow_far (hb4.ne_ hb6 (by decide)) _⟩
  · obtain ⟨q5, e5, hq5, hb5⟩ := h.r5 h5
    exact ⟨q5, e5, hq5, hb5.setRow_far (hb5.ne_ hb6 (by decide)) _⟩
end
end Go.Proofs.Ytmmjihkcofgmmaa

/- One operation in whatever world, for walks by an invariant. -/
namespace Go.Proofs.Ytmmjihkcofgmmaa
open Go.RowKit

section
variable {P : Program} {a : Act} {o : Oper} {w w' : World} {K : Act → World → Prop} {Q : Exit → Act → World → Prop}
theorem opwp_val {v : Value} (he : (execOp a.eval o).run P w = .ok (.value v) w') (hk : K (a.put o.dst v) w') : Oper.wp P o a w K Q := by
  unfold Oper.wp
  rw [he]
  exact hk
theorem opwp_skip (he : (execOp a.eval o).run P w = .ok .skip w') (hk : K (a.put o.dst undef) w') : Oper.wp P o a w K Q := by
  unfold Oper.wp
  rw [he]
  exact hk
theorem opwp_call {R : Ending → World → Prop} (f : FuncId) (args : Array Value) (he : (execOp a.eval o).run P w = .ok (.enter f args) w) (hc : Calls P f args w R)
    (hr : ∀ e w', R e w' → ∃ v, e = .returned v ∧ K (a.put o.dst v) w') : Oper.wp P o a w K Q := by
  unfold Oper.wp
  rw [he, Oper.upon_enter]
  refine hc.mono fun e w' h => ?_
  obtain ⟨v, rfl, hk⟩ := hr e w' h
  exact hk
theorem exec_load_agg {ty : TypeId} {x : Operand} (ho : o.op = .load ty x) (b off : Nat) (hx : a.eval x = .pointer (some ⟨b, off, none⟩))
    (cs : List Value) (d : TypeDesc) (hc : ∀ j v, cs[j]? = some v → w.cell? ⟨b, off + j, none⟩ = some v)
    (hu : P.underlying ty = some d) (hd : (match d with | .struct _ | .array _ _ => true | _ => false) = true) (hi : (P.info? ty).map (·.size) = some cs.length) :
    (execOp a.eval o).run P w = .ok (.value (.agg cs.toArray)) w := by
  unfold execOp
  simp [ho, hx, Instr.loadAt, Instr.sureAddr, run_loadVar_agg w b off ty cs d hc hu hd hi]
theorem exec_alloc_agg {ty : TypeId} (ho : o.op = .alloc ty) (Z : Array Value) (hz : (P.info? ty).map (·.zero) = some (some (.agg Z))) :
    (execOp a.eval o).run P w = .ok (.value (.pointer (some ⟨w.heap.size, 0, none⟩))) (w.alloc (.cells Z ty)) := by
  cases hq : P.info? ty with
  | none => simp [hq] at hz
  | some i =>
    have hs : i.zero = some (.agg Z) := by simpa [hq] using hz
    unfold execOp
    simp [ho, Instr.alloc, zeroValue, typeInfo, hq, hs, newVar, newRow, newObj, Value.cells, Sem.run]
theorem exec_store_agg {ty : TypeId} {p x : Operand} (ho : o.op = .store ty p x) (g : Nat) (hp : a.eval p = .pointer (some ⟨g, 0, none⟩))
    (cs : List Value) (hx : a.eval x = .agg cs.toArray) (cur : List Value) (t : TypeId) (hg : Blk w g t cur.toArray) (hfit : cs.length = cur.length) (h1 : ∀ v ∈ cs, v.oneCell' = true)
    (hi : (P.info? ty).map (·.size) = some cs.length) :
    (execOp a.eval o).run P w = .ok .skip (w.setRow g cs.toArray) := by
  have hst := run_storeCells_at P g 0 t cs 0 cur.toArray w hg (by simp; omega) h1
  have hsp : splice cur 0 cs = cs := by simp [splice, hfit]
  cases hq : P.info? ty with
  | none => simp [hq] at hi
  | some i =>
    have hs : i.size = cs.length := by simpa [hq] using hi
    have : (execOp a.eval o).run P w = .ok .skip (w.setRow g (splice cur 0 cs).toArray) := by
      unfold execOp
      simp only [ho, hp, hx]
      simp [Instr.storeAt, Instr.sureAddr, storeVar, sizeOf, typeInfo, hq, hs, Value.cells, hst, splice]
    rw [this, hsp]
end
def F7 (a0 : Act) (x5 x6 x7 t14 t15 t16 t17 : Value) : Act := ((((((a0.put (some 5) x5).put (some 6) x6).put (some 7) x7).put (some 14) t14).put (some 15) t15).put (some 16) t16).put (some 17) t17
theorem wp_region_invA {P : Program} {ops : Array Oper} {Q : Exit → Act → World → Prop} {id : Nat} {a : Act} {w : World} (hm : P.follows .mixedOrders = true) (Inv : Act → World → Array Bool → Act → World → Prop)
    (h0 : Inv a w (Array.replicate ops.size false) a w.drew)
    (hstep : ∀ l a' w' i, Inv a w l a' w' → i ∈ Region.ready .any ops l → wpOp P ops Q i (Inv a w (l.setIfInBounds i true)) a' w')
    (hdone : ∀ l a' w', Inv a w l a' w' → Region.ready .any ops l = [] → Q .normal a' w') : (Code.region id ops true).wp P Q a w :=
  wp_region_inv hm (Inv a w) h0 hstep hdone
theorem getD_false {l : Array Bool} {i : Nat} (h : l.getD i true = false) : l.getD i false = false := by
  rcases Nat.lt_or_ge i l.size with h' | h'
  · simp [h'] at h ⊢; exact h
  · simp [Array.getElem?_eq_none h']
section
variable {P : Program} {a : Act} {o : Oper} {w : World} {K : Act → World → Prop} {Q : Exit → Act → World → Prop}
theorem opwp_load_agg (ty : TypeId) (x : Operand) (b off : Nat) (cs : List Value) (d : TypeDesc) (ho : o.op = .load ty x) (hx : a.eval x = .pointer (some ⟨b, off, none⟩))
    (hc : ∀ j v, cs[j]? = some v → w.cell? ⟨b, off + j, none⟩ = some v)
    (hu : P.underlying ty = some d) (hd : (match d with | .struct _ | .array _ _ => true | _ => false) = true) (hi : (P.info? ty).map (·.size) = some cs.length)
    (hk : K (a.put o.dst (.agg cs.toArray)) w) : Oper.wp P o a w K Q :=
  opwp_val (exec_load_agg ho b off hx cs d hc hu hd hi) hk
theorem opwp_store_agg (ty : TypeId) (p x : Operand) (g : Nat) (cs cur : List Value) (t : TypeId) (ho : o.op = .store ty p x) (hp : a.eval p = .pointer (some ⟨g, 0, none⟩))
    (hx : a.eval x = .agg cs.toArray) (hg : Blk w g t cur.toArray) (hfit : cs.length = cur.length) (h1 : ∀ v ∈ cs, v.oneCell' = true)
    (hi : (P.info? ty).map (·.size) = some cs.length)
    (hk : K (a.put o.dst undef) (w.setRow g cs.toArray)) : Oper.wp P o a w K Q :=
  opwp_skip (exec_store_agg ho g hp cs hx cur t hg hfit h1 hi) hk
theorem opwp_store_at (ty : TypeId) (p x : Operand) (g off : Nat) (cs cur : List Value) (t : TypeId) (ho : o.op = .store ty p x) (hp : a.eval p = .pointer (some ⟨g, off, none⟩))
    (hx : a.eval x = .agg cs.toArray) (hg : Blk w g t cur.toArray) (hfit : off + cs.length ≤ cur.length) (h1 : ∀ v ∈ cs, v.oneCell' = true)
    (hi : (P.info? ty).map (·.size) = some cs.length)
    (hk : K (a.put o.dst undef) (w.setRow g (splice cur off cs).toArray)) : Oper.wp P o a w K Q := by
  refine opwp_skip ?_ hk
  have hst := run_storeCells_at P g off t cs 0 cur.toArray w hg (by simpa using hfit) h1
  cases hq : P.info? ty with
  | none => simp [hq] at hi
  | some i =>
    have hs : i.size = cs.length := by simpa [hq] using hi
    unfold execOp
    simp only [ho, hp, hx]
    simp [Instr.storeAt, Instr.sureAddr, storeVar, sizeOf, typeInfo, hq, hs, Value.cells, hst, splice]
/-- the same, where the block is told by an existence (a walk's goal may not be parted by it) -/
theorem opwp_store_ex (ty : TypeId) (p x : Operand) (y : Value) (B : Nat) (cs cur : List Value) (ho : o.op = .store ty p x) (hp : a.eval p = y)
    (hx : a.eval x = .agg cs.toArray) (hex : ∃ q, y = .pointer (some ⟨q, 0, none⟩) ∧ B ≤ q ∧ Blk w q ty cur.toArray) (hfit : cs.length = cur.length) (h1 : ∀ v ∈ cs, v.oneCell' = true)
    (hi : (P.info? ty).map (·.size) = some cs.length)
    (hk : ∀ q, y = .pointer (some ⟨q, 0, none⟩) → K (a.put o.dst undef) (w.setRow q cs.toArray)) : Oper.wp P o a w K Q := by
  obtain ⟨q, hy, _, hb⟩ := hex
  exact opwp_store_agg ty p x q cs cur ty ho (hp.trans hy) hx hb hfit h1 hi (hk q hy)
end
end Go.Proofs.Ytmmjihkcofgmmaa

/- Rows of bytes of the call's own, appended to. -/
namespace Go.Proofs.Ytmmjihkcofgmmaa
open Go.RowKit
set_option linter.unusedVariables false

theorem infoB : (Try.prog.info? 5).map (fun i => (i.zero, i.size, i.bytes)) = some (some (.int .u8 0), 1, 1) := by kernel_rfl
/-- a row of bytes that the call has made -/
def OwnB (w : World) (l : List UInt8) (e : Ending) (w' : World) : Prop :=
  ∃ A c, e = .returned (.slice A l.length c) ∧ w'.ownsRow w.heap.size 5 1 (.slice A l.length c) l.length (u8s l) ∧ Fr [] w w'
theorem OwnB.mk' {w w' : World} {l : List UInt8} {v : Value} {n : Nat} (h : w'.ownsRow w.heap.size 5 1 v n (u8s l)) (hf : Fr [] w w') : OwnB w l (.returned v) w' := by
  obtain ⟨A, c, rfl, h'⟩ := own_form h
  exact ⟨A, c, rfl, h', hf⟩
/-- one byte in a new block -/
theorem rd_one (w : World) (x : UInt8) (t : TypeId) : Rd (w.alloc (.cells #[u8v x] t)) (some ⟨w.heap.size, 0, none⟩) [x] := fun _ =>
  ⟨_, 0, rfl, fun j y hy => by
    have hb := Blk.new w t #[u8v x]
    rw [hb.cell]
    cases j with
    | zero => simp at hy; subst hy; rfl
    | succ j => simp at hy⟩
/-- append of bytes to a row of the call's own -/
theorem appU8 {ops : Array Oper} {rest : List Oper} {o : Oper} {a : Act} {w : World} {Q : Exit → Act → World → Prop} (hgd : o.guard = none) (s x : Operand)
    (ho : o.op = .call { callee := .builtin .append, args := #[s, x], argTypes := #[26, 26] })
    (base : Nat) (v : Value) (n : Nat) (xs : List UInt8) (hs : a.eval s = v) (hown : w.ownsRow base 5 1 v n (u8s xs))
    (A : Option Addr) (m c : Nat) (l : List UInt8) (hx : a.eval x = .slice A m c) (hl : l.length = m) (hr : Rd w A l) (hbd : n + m ≤ 1000000000) (hbase : base ≤ w.heap.size)
    (h : ∀ A' c' w', w'.ownsRow base 5 1 (.slice A' (n + m) c') (n + m) (u8s (xs ++ l)) → Fr v.ownBlock.toList w w' → ((Value.slice A' (n + m) c').ownBlock = v.ownBlock ∨ (Value.slice A' (n + m) c').ownBlock = some w.heap.size) → wpList Try.prog ops Q rest (a.put o.dst (.slice A' (n + m) c')) w') :
    wpList Try.prog ops Q (o :: rest) a w := by
  refine wpList_append hgd s x 26 ho base 5 (.int .u8 0) 1 1 Try.underlying26 infoB rfl (by decide) v n (u8s xs) hs hown A m c (u8s l) hx (by simp [hl]) hr.srcAll (u8s_one _) (by unfold maxLen; omega) (by omega) hbase ?_
  intro v' w' ho' _ hg hb
  rw [← u8s_append] at ho'
  obtain ⟨A1, c1, rfl, ho2⟩ := own_form ho'
  have e : (xs ++ l).length = n + m := by have := ho'.1; simp at this; simp [hl]; omega
  rw [e] at ho2 hb ⊢
  exact h A1 c1 w' ho2 ((Fr.refl _ _).grown hg (fun k hk => .inl (by simp [hk]))) hb

theorem ownB_blk {w : World} {base : Nat} {A : Option Addr} {m c : Nat} {l : List UInt8} (h : w.ownsRow base 5 1 (.slice A m c) m (u8s l)) (h0 : A ≠ none) :
    ∃ g rest, A = some ⟨g, 0, none⟩ ∧ base ≤ g ∧ Blk w g 5 (u8s l ++ rest).toArray ∧ l.length = m := by
  have hl : l.length = m := by have := h.1; simp at this; omega
  rcases h.2 with ⟨h1, _⟩ | ⟨g, cap, cur, h1, hb, hg, hnc, _, hsz, htk⟩
  · injection h1 with h1 _ _; exact absurd h1 h0
  · injection h1 with h1 _ _
    refine ⟨g, cur.toList.drop m, h1, hb, ?_, hl⟩
    unfold Blk
    rw [hg, ← htk]
    simp

/-- append([]byte{}, ..): a copy of its own -/
theorem copyU8 {ops : Array Oper} {rest : List Oper} {o : Oper} {a : Act} {w : World} {Q : Exit → Act → World → Prop} (hgd : o.guard = none) (s x : Operand)
    (ho : o.op = .call { callee := .builtin .append, args := #[s, x], argTypes := #[26, 26] })
    (w0 : World) (g0 : Nat) (hs : a.eval s = .slice (some ⟨g0, 0, none⟩) 0 0) (hg0 : g0 = w0.heap.size) (hw : w = w0.alloc (.cells #[] 5))
    (A : Option Addr) (m c : Nat) (l : List UInt8) (hx : a.eval x = .slice A m c) (hl : l.length = m) (hr : Rd w0 A l) (hbd : m ≤ 1000000000)
    (h : ∀ g c' w', w'.ownsRow w0.heap.size 5 1 (.slice (some ⟨g, 0, none⟩) m c') m (u8s l) → Fr [] w0 w' → wpList Try.prog ops Q rest (a.put o.dst (.slice (some ⟨g, 0, none⟩) m c')) w') :
    wpList Try.prog ops Q (o :: rest) a w := by
  subst hw hg0
  have hf := (Fr.refl [] w0).alloc (.cells #[] 5)
  have hown := World.ownsRow_made (base := w0.heap.size) (e := 5) (size := 1) w0 #[] 0 (Nat.le_refl _) (by decide) (by simp)
  refine appU8 hgd s x ho w0.heap.size _ 0 [] hs (by simpa [u8s] using hown) A m c l hx hl (hr.fr hf (by simp)) (by omega) (by simp) ?_
  intro A' c' w' ho' hf' hb
  rw [Nat.zero_add] at ho' hb ⊢
  rw [List.nil_append] at ho'
  obtain ⟨g, tl, rfl, hg, hblk, _⟩ := ownB_blk ho' (by rintro rfl; simp [Value.ownBlock] at hb)
  exact h g c' w' ho' (hf.trans' hf' (fun x hx => by simp [Value.ownBlock] at hx; omega))

theorem rdB_blk {w : World} {g : Nat} {l : List UInt8} {tl : List Value} {t : TypeId} (h : Blk w g t (u8s l ++ tl).toArray) : Rd w (some ⟨g, 0, none⟩) l := fun _ => ⟨g, 0, rfl, fun j x hx => by
  have hj : j < l.length := (List.getElem?_eq_some_iff.1 hx).1
  rw [h.cell, Nat.zero_add, List.getElem?_toArray, List.getElem?_append_left (by simpa using hj), u8s_get, hx]; rfl⟩

theorem ownB_at {w : World} {base g n c : Nat} {l : List UInt8} (h : w.ownsRow base 5 1 (.slice (some ⟨g, 0, none⟩) n c) n (u8s l)) :
    l.length = n ∧ base ≤ g ∧ n ≤ c ∧ c ≤ maxLen ∧ ∃ tl, Blk w g 5 (u8s l ++ tl).toArray := by
  have hl : l.length = n := by have := h.1; simp at this; omega
  rcases h.2 with ⟨h1, _⟩ | ⟨g', cap, cur, h1, hb, hg, hnc, hcm, hsz, htk⟩
  · injection h1 with h1 _ _; exact absurd h1 (by simp)
  · injection h1 with h1 _ h3
    injection h1 with h1
    injection h1 with h1 _ _
    subst h1 h3
    refine ⟨hl, hb, hnc, hcm, cur.toList.drop n, ?_⟩
    unfold Blk
    rw [hg, ← htk]
    simp

theorem growU8 {ops : Array Oper} {rest : List Oper} {o : Oper} {a : Act} {w : World} {Q : Exit → Act → World → Prop} (hgd : o.guard = none) (s x : Operand)
    (ho : o.op = .call { callee := .builtin .append, args := #[s, x], argTypes := #[26, 26] })
    (base g n c0 : Nat) (xs : List UInt8) (hs : a.eval s = .slice (some ⟨g, 0, none⟩) n c0) (hown : w.ownsRow base 5 1 (.slice (some ⟨g, 0, none⟩) n c0) n (u8s xs))
    (A : Option Addr) (m c : Nat) (l : List UInt8) (hx : a.eval x = .slice A m c) (hl : l.length = m) (hr : Rd w A l) (hbd : n + m ≤ 1000000000) (hbase : base ≤ w.heap.size)
    (h : ∀ g' c' w', w'.ownsRow base 5 1 (.slice (some ⟨g', 0, none⟩) (n + m) c') (n + m) (u8s (xs ++ l)) → Fr [g] w w' → wpList Try.prog ops Q rest (a.put o.dst (.slice (some ⟨g', 0, none⟩) (n + m) c')) w') :
    wpList Try.prog ops Q (o :: rest) a w := by
  refine appU8 hgd s x ho base _ n xs hs hown A m c l hx hl hr hbd hbase ?_
  intro A' c' w' ho' hf' hb
  have hne : A' ≠ none := by rintro rfl; rcases hb with hb | hb <;> exact absurd hb (by simp [Value.ownBlock])
  obtain ⟨g', tl, rfl, _, _, _⟩ := ownB_blk ho' hne
  exact h g' c' w' ho' (by simpa [Value.ownBlock] using hf')

end Go.Proofs.Ytmmjihkcofgmmaa

/- A drawn region whose order is forced once its pure operations are taken. -/
namespace Go.Proofs.Ytmmjihkcofgmmaa
open Go.RowKit
set_option linter.unusedVariables false

section
variable {P : Program} {md : Region.Mode} {ops : Array Oper} {Q : Exit → Act → World → Prop}
/-- no world is asked for -/
def AnyW (_ : World) : Prop := True
theorem seq_take {i : Nat} {oi : Oper} {v : Value} {d : Tmp} {fuel : Nat} {listed : Array Bool} {a : Act} {w : World} (hi : ops[i]? = some oi) (hd : oi.dst = some d) (hg : oi.guard = none)
    (hs : Region.noSelect ops = true) (hf : Region.free md ops listed i = true) (hr : (Region.ready md ops listed).contains i = true)
    (hQ : ∀ c a w, Q (.panic c) (a.put (some d) v) w → Q (.panic c) a w) (hy : ∀ w', (execOp a.eval oi).run P w' = .ok (.value v) w')
    (h : wpAnyH P md ops Q AnyW fuel (listed.setIfInBounds i true) (a.put (some d) v) w) : wpAnyH P md ops Q AnyW (fuel + 1) listed a w :=
  wpAnyH_take hi hs hf hr (by rw [hd]; exact hQ) (Or.inl ⟨by simp [Region.wanted, hg], fun w' _ => hy w'⟩) trivial (by rw [hd]; exact h)
theorem seq_only {i : Nat} {o : Oper} {fuel : Nat} {listed : Array Bool} {a : Act} {w : World} (hi : ops[i]? = some o) (hg : o.guard = none) (hr : Region.ready md ops listed = [i])
    (h : Oper.wp P o a w (fun a' w' => wpAnyH P md ops Q AnyW fuel (listed.setIfInBounds i true) a' w') Q) : wpAnyH P md ops Q AnyW (fuel + 1) listed a w := by
  refine wpAnyH_all hr (by simp) fun j hj => ?_
  obtain rfl := List.mem_singleton.1 hj
  refine wpOp_of hi hg ?_
  exact Oper.wp_mono (fun a' w' h' => ⟨trivial, h'⟩) h
theorem seq_begin {id : Nat} {a : Act} {w : World} (hm : P.follows .mixedOrders = true)
    (h : wpAnyH P .any ops Q AnyW ops.size (Array.replicate ops.size false) a w.drew) : (Code.region id ops true).wp P Q a w := wp_region_held hm h
section
variable {a : Act} {o : Oper} {w : World} {K : Act → World → Prop}
theorem sq_load (ty : TypeId) (x : Operand) (b off : Nat) (cs : List Value) (de : TypeDesc) (d : Tmp) (ho : o.op = .load ty x) (hd : o.dst = some d) (hx : a.eval x = .pointer (some ⟨b, off, none⟩))
    (hc : ∀ j v, cs[j]? = some v → w.cell? ⟨b, off + j, none⟩ = some v)
    (hu : P.underlying ty = some de) (hdd : (match de with | .struct _ | .array _ _ => true | _ => false) = true) (hi : (P.info? ty).map (·.size) = some cs.length)
    (hk : K (a.put (some d) (.agg cs.toArray)) w) : Oper.wp P o a w K Q := opwp_load_agg ty x b off cs de ho hx hc hu hdd hi (by rw [hd]; exact hk)
theorem sq_val (v : Value) (w' : World) (d : Tmp) (hd : o.dst = some d) (he : (execOp a.eval o).run P w = .ok (.value v) w') (hk : K (a.put (some d) v) w') : Oper.wp P o a w K Q := opwp_val he (by rw [hd]; exact hk)
theorem sq_call (R : Ending → World → Prop) (f : FuncId) (args : Array Value) (d : Tmp) (hd : o.dst = some d) (he : (execOp a.eval o).run P w = .ok (.enter f args) w) (hc : Calls P f args w R)
    (hr : ∀ e w', R e w' → ∃ v, e = .returned v ∧ K (a.put (some d) v) w') : Oper.wp P o a w K Q := opwp_call f args he hc (by rw [hd]; exact hr)
theorem sq_store (ty : TypeId) (p x : Operand) (g off : Nat) (cs cur : List Value) (t : TypeId) (ho : o.op = .store ty p x) (hd : o.dst = none) (hp : a.eval p = .pointer (some ⟨g, off, none⟩))
    (hx : a.eval x = .agg cs.toArray) (hg : Blk w g t cur.toArray) (hfit : off + cs.length ≤ cur.length) (h1 : ∀ v ∈ cs, v.oneCell' = true)
    (hi : (P.info? ty).map (·.size) = some cs.length)
    (hk : K a (w.setRow g (splice cur off cs).toArray)) : Oper.wp P o a w K Q := opwp_store_at ty p x g off cs cur t ho hp hx hg hfit h1 hi (by rw [hd]; exact hk)
theorem sq_skip (w' : World) (hd : o.dst = none) (he : (execOp a.eval o).run P w = .ok .skip w') (hk : K a w') : Oper.wp P o a w K Q := opwp_skip he (by rw [hd]; exact hk)
end
end
end Go.Proofs.Ytmmjihkcofgmmaa
