/-
  Words for memory, and small lemmas, over any program. No conditions of its own. Written by an AI agent.
-/
import Derived.WalkKit
import Derived.WalkSpells
import Derived.WalkLawsBesides
import Derived.Deep.AppendLies
import Derived.Deep.Draws
import Derived.Deep.OwnRows
import Derived.Deep.LoopGhost
import Derived.Deep.QuietTactic
import Derived.BigQuiet
import Derived.Maps.AppendAt
import Derived.Laws.CopyOwn
import Derived.Lib.Hide
namespace Go.Proofs.Ytmgbimdebhhckaa
open Go.RowKit

/-- Only the blocks listed in S, and new ones, may have turned. -/
structure Fr (S : List Nat) (w w' : World) : Prop where
  os : w'.os = w.os
  tape : w'.tape = w.tape
  output : w'.output = w.output
  size : w.heap.size ≤ w'.heap.size
  block : ∀ k, k < w.heap.size → k ∉ S → w'.heap[k]? = w.heap[k]?

section
variable {S T : List Nat} {a w w' : World}
theorem Fr.refl (S : List Nat) (w : World) : Fr S w w := ⟨rfl, rfl, rfl, Nat.le_refl _, fun _ _ _ => rfl⟩
theorem Fr.trans' {b c : World} (h : Fr S a b) (k : Fr T b c) (hT : ∀ x ∈ T, x ∈ S ∨ a.heap.size ≤ x) : Fr S a c :=
  ⟨k.os.trans h.os, k.tape.trans h.tape, k.output.trans h.output, Nat.le_trans h.size k.size, fun i hi hn =>
    (k.block i (Nat.lt_of_lt_of_le hi h.size) (fun hm => by rcases hT i hm with h1 | h1; exact hn h1; omega)).trans (h.block i hi hn)⟩
theorem Fr.trans {b c : World} (h : Fr S a b) (k : Fr S b c) : Fr S a c := h.trans' k fun _ hx => .inl hx
theorem Fr.mono (h : Fr S a w) (hT : ∀ x ∈ S, x ∈ T ∨ a.heap.size ≤ x) : Fr T a w :=
  ⟨h.os, h.tape, h.output, h.size, fun i hi hn => h.block i hi (fun hm => by rcases hT i hm with h1 | h1; exact hn h1; omega)⟩
theorem Fr.alloc (h : Fr S a w) (o : Obj) : Fr S a (w.alloc o) :=
  ⟨h.os, h.tape, h.output, Nat.le_trans h.size (by simp), fun i hi hn => (Below.heap_alloc w o i (Nat.lt_of_lt_of_le hi h.size)).trans (h.block i hi hn)⟩
theorem Fr.drew (h : Fr S a w) : Fr S a w.drew := ⟨h.os, h.tape, h.output, h.size, h.block⟩
theorem Fr.drewN (h : Fr S a w) (n : Nat) : Fr S a (w.drewN n) := ⟨h.os, h.tape, h.output, h.size, h.block⟩
theorem Fr.setCell (h : Fr S a w) {p : Addr} (hp : p.block ∈ S ∨ a.heap.size ≤ p.block) (u : Value) : Fr S a (w.setCell p u) :=
  ⟨h.os, h.tape, h.output, by simpa [World.setCell] using h.size, fun i hi hn => (Below.heap_setCell w p u i (by
    rintro rfl
    rcases hp with hp | hp
    · exact hn hp
    · omega)).trans (h.block i hi hn)⟩
theorem Fr.setRow (h : Fr S a w) {g : Nat} (hp : g ∈ S ∨ a.heap.size ≤ g) (cs : Array Value) : Fr S a (w.setRow g cs) :=
  ⟨h.os, h.tape, h.output, by simpa [World.setRow] using h.size, fun i hi hn => (setRow_other w g i cs (by
    rintro rfl
    rcases hp with hp | hp
    · exact hn hp
    · omega)).trans (h.block i hi hn)⟩
theorem Fr.grown (h : Fr S a w) {row : Option Nat} (hg : w.grownBy w' row) (hr : ∀ k, row = some k → k ∈ S ∨ a.heap.size ≤ k) : Fr S a w' :=
  ⟨hg.os.trans h.os, hg.tape.trans h.tape, hg.output.trans h.output, Nat.le_trans h.size hg.size, fun i hi hn =>
    (hg.block i (Nat.lt_of_lt_of_le hi h.size) (fun e => by rcases hr i e.symm with h1 | h1; exact hn h1; omega)).trans (h.block i hi hn)⟩
theorem Fr.below (h : Fr S a w) {B : Nat} (hB : B ≤ a.heap.size) (hS : ∀ x ∈ S, B ≤ x) : Below B a w :=
  ⟨h.os, h.tape, h.output, h.size, fun k hk => h.block k (by omega) (fun hm => by have := hS k hm; omega)⟩
theorem Fr.of_below (h : Below a.heap.size a w) : Fr S a w := ⟨h.os, h.tape, h.output, h.size, fun k hk _ => h.block k hk⟩
theorem Fr.cell (h : Fr S a w) {p : Addr} (hp : p.block < a.heap.size) (hn : p.block ∉ S) : w.cell? p = a.cell? p := World.cell?_of_block (h.block _ hp hn)
theorem Fr.frozen (h : Fr S a w) {p : Addr} (hp : p.block < a.heap.size) (hn : p.block ∉ S) : w.frozen? p = a.frozen? p := World.frozen?_of_block (h.block _ hp hn)
end

/-- Block g is just the cells cs, of element type t, none frozen. -/
def Blk (w : World) (g : Nat) (t : TypeId) (cs : Array Value) : Prop := w.heap[g]? = some (.cells cs t (0, 0))

section
variable {w w' : World} {g : Nat} {t : TypeId} {cs : Array Value}
theorem Blk.lt (h : Blk w g t cs) : g < w.heap.size := by
  rcases Nat.lt_or_ge g w.heap.size with hlt | hge
  · exact hlt
  · unfold Blk at h; rw [Array.getElem?_eq_none hge] at h; cases h
theorem Blk.cell (h : Blk w g t cs) (i : Nat) : w.cell? ⟨g, i, none⟩ = cs[i]? := cell_of_row w g i cs t (0, 0) h
theorem Blk.frozen (h : Blk w g t cs) (i : Nat) : w.frozen? ⟨g, i, none⟩ = false := by
  unfold Blk at h
  simp [World.frozen?, h]
theorem Blk.new (w : World) (t : TypeId) (cs : Array Value) : Blk (w.alloc (.cells cs t)) w.heap.size t cs := heap_alloc_new w _
theorem Blk.drew (h : Blk w g t cs) : Blk w.drew g t cs := h
theorem Blk.drewN (h : Blk w g t cs) (n : Nat) : Blk (w.drewN n) g t cs := h
theorem Blk.alloc (h : Blk w g t cs) (o : Obj) : Blk (w.alloc o) g t cs := (Below.heap_alloc w o g h.lt).trans h
theorem Blk.set_ (h : Blk w g t cs) (i : Nat) (u : Value) : Blk (w.setCell ⟨g, i, none⟩ u) g t (cs.setIfInBounds i u) := by
  unfold Blk at h ⊢
  simp [World.setCell, Array.getElem?_modify, h]
theorem Blk.far (h : Blk w g t cs) {p : Addr} (hp : g ≠ p.block) (u : Value) : Blk (w.setCell p u) g t cs := (Below.heap_setCell w p u g hp).trans h
theorem Blk.below {B : Nat} (h : Blk w g t cs) (hb : Below B w w') (hg : g < B) : Blk w' g t cs := (hb.block g hg).trans h
theorem Blk.fr {S : List Nat} (h : Blk w g t cs) (hb : Fr S w w') (hg : g ∉ S) : Blk w' g t cs := (hb.block g h.lt hg).trans h
theorem Blk.grown {row : Option Nat} (h : Blk w g t cs) (hb : w.grownBy w' row) (hg : some g ≠ row) : Blk w' g t cs := (hb.block g h.lt hg).trans h
theorem Blk.setRow_far (h : Blk w g t cs) {k : Nat} (hp : g ≠ k) (xs : Array Value) : Blk (w.setRow k xs) g t cs := (setRow_other w k g xs hp).trans h
theorem Blk.setRow_ (h : Blk w g t cs) (xs : Array Value) : Blk (w.setRow g xs) g t xs := setRow_heap w g cs xs t (0, 0) h
theorem Blk.ne_ {g' : Nat} {t' : TypeId} {cs' : Array Value} (h : Blk w g t cs) (h' : Blk w g' t' cs') (hne : t ≠ t') : g ≠ g' := by
  rintro rfl
  unfold Blk at h h'
  rw [h] at h'
  injection h' with h'
  injection h' with _ ht
  exact hne ht
end

/-- a byte's value; a list of bytes' values -/
abbrev u8v (x : UInt8) : Value := .int .u8 (x.toNat : Int)
def u8s (l : List UInt8) : List Value := l.map u8v
@[simp] theorem u8s_length (l : List UInt8) : (u8s l).length = l.length := by simp [u8s]
theorem u8s_append (l m : List UInt8) : u8s (l ++ m) = u8s l ++ u8s m := by simp [u8s]
theorem u8s_take (l : List UInt8) (n : Nat) : u8s (l.take n) = (u8s l).take n := by simp [u8s]
theorem u8s_drop (l : List UInt8) (n : Nat) : u8s (l.drop n) = (u8s l).drop n := by simp [u8s]
theorem u8s_get (l : List UInt8) (i : Nat) : (u8s l)[i]? = (l[i]?).map u8v := by simp [u8s]
theorem u8s_one (l : List UInt8) : ∀ u ∈ u8s l, u.oneCell' = true := by
  intro u hu
  simp only [u8s, List.mem_map] at hu
  obtain ⟨x, _, rfl⟩ := hu
  rfl
/-- 'copy' into a block that is known whole. -/
theorem run_copy_any {P : Program} (w : World) (dT sT ty elem : TypeId) (hu : P.underlying dT = some (.slice elem)) (hsz : (P.info? elem).map (·.size) = some 1)
    (dp sp : Option Addr) (dLen dCap sLen sCap g off : Nat) (cur : List Value) (t : TypeId) (hg : Blk w g t cur.toArray) (cs : List Value) (hn : cs.length = Nat.min sLen dLen)
    (hdst : 0 < cs.length → dp = some ⟨g, off, none⟩) (hsrc : 0 < cs.length → ∃ ad, sp = some ad ∧ ∀ j v, cs[j]? = some v → w.cell? (ad.add j) = some v)
    (hfit : off + cs.length ≤ cur.length) (h1 : ∀ v ∈ cs, v.oneCell' = true) :
    ∃ w', (Builtin.copy_ #[dT, sT] ty #[.slice dp dLen dCap, .slice sp sLen sCap]).run P w = .ok (goInt cs.length) w' ∧ Blk w' g t (splice cur off cs).toArray ∧ Fr [g] w w' ∧ w'.heap.size = w.heap.size := by
  by_cases h0 : cs.length = 0
  · obtain rfl : cs = [] := List.eq_nil_of_length_eq_zero h0
    have hrun := run_copy_none (P := P) w dT sT ty elem dp sp dLen dCap sLen sCap hu hsz (by simpa using hn.symm)
    refine ⟨w, by simpa using hrun, ?_, Fr.refl _ _, rfl⟩
    have : splice cur off [] = cur := by simp [splice]
    rw [this]; exact hg
  · obtain rfl := hdst (by omega)
    obtain ⟨ad, rfl, hsrc'⟩ := hsrc (by omega)
    have hrun := run_copy_row (P := P) w dT sT ty elem g off dLen dCap ad sLen sCap cur.toArray t cs hu hsz hg hn hsrc' (by simpa using hfit) h1
    refine ⟨_, hrun, ?_, (Fr.refl _ _).setRow (.inl (by simp)) _, by simp [World.setRow]⟩
    have := Blk.setRow_ hg (cur.take off ++ cs ++ cur.drop (off + cs.length)).toArray
    simpa [splice] using this

theorem step_copy {P : Program} {ops : Array Oper} {o : Oper} {a : Act} {w : World} {K : Act → World → Prop} {Q : Exit → Act → World → Prop} {E : Prop} (hgd : o.guard = none) (d s : Operand) (dT sT : TypeId)
    (ho : o.op = .call { callee := .builtin .copy, args := #[d, s], argTypes := #[dT, sT] }) (elem : TypeId) (hu : P.underlying dT = some (.slice elem)) (hsz : (P.info? elem).map (·.size) = some 1)
    (dp sp : Option Addr) (dLen dCap sLen sCap : Nat) (hd : a.eval d = .slice dp dLen dCap) (hs : a.eval s = .slice sp sLen sCap)
    (g off : Nat) (cur : List Value) (t : TypeId) (hg : Blk w g t cur.toArray) (cs : List Value) (hn : cs.length = Nat.min sLen dLen)
    (hdst : 0 < cs.length → dp = some ⟨g, off, none⟩) (hsrc : 0 < cs.length → ∃ ad, sp = some ad ∧ ∀ j v, cs[j]? = some v → w.cell? (ad.add j) = some v)
    (hfit : off + cs.length ≤ cur.length) (h1 : ∀ v ∈ cs, v.oneCell' = true)
    (h : ∀ w', Blk w' g t (splice cur off cs).toArray → Fr [g] w w' → w'.heap.size = w.heap.size → K (a.put o.dst (goInt cs.length)) w') :
    if Region.wanted o (yielded ops a.tmps) = true then Oper.wp P o a w K Q else E := by
  have hw : Region.wanted o (yielded ops a.tmps) = true := by simp [Region.wanted, hgd]
  rw [if_pos hw]
  obtain ⟨w', hrun, hb, hf, hz⟩ := run_copy_any (P := P) w dT sT o.type elem hu hsz dp sp dLen dCap sLen sCap g off cur t hg cs hn hdst hsrc hfit h1
  unfold Oper.wp
  simp [execOp, ho, resolve, invoke, builtin, hd, hs, hrun, Result.andThen]
  exact h _ hb hf hz

theorem wpList_copy {P : Program} {ops : Array Oper} {rest : List Oper} {o : Oper} {a : Act} {w : World} {Q : Exit → Act → World → Prop} (hgd : o.guard = none) (d s : Operand) (dT sT : TypeId)
    (ho : o.op = .call { callee := .builtin .copy, args := #[d, s], argTypes := #[dT, sT] }) (elem : TypeId) (hu : P.underlying dT = some (.slice elem)) (hsz : (P.info? elem).map (·.size) = some 1)
    (dp sp : Option Addr) (dLen dCap sLen sCap : Nat) (hd : a.eval d = .slice dp dLen dCap) (hs : a.eval s = .slice sp sLen sCap)
    (g off : Nat) (cur : List Value) (t : TypeId) (hg : Blk w g t cur.toArray) (cs : List Value) (hn : cs.length = Nat.min sLen dLen)
    (hdst : 0 < cs.length → dp = some ⟨g, off, none⟩) (hsrc : 0 < cs.length → ∃ ad, sp = some ad ∧ ∀ j v, cs[j]? = some v → w.cell? (ad.add j) = some v)
    (hfit : off + cs.length ≤ cur.length) (h1 : ∀ v ∈ cs, v.oneCell' = true)
    (h : ∀ w', Blk w' g t (splice cur off cs).toArray → Fr [g] w w' → w'.heap.size = w.heap.size → wpList P ops Q rest (a.put o.dst (goInt cs.length)) w') :
    wpList P ops Q (o :: rest) a w := by
  refine wpList_plain hgd fun K hK => ?_
  have := step_copy (P := P) (ops := ops) (K := K) (Q := Q) (E := True) (a := a) (w := w) hgd d s dT sT ho elem hu hsz dp sp dLen dCap sLen sCap hd hs g off cur t hg cs hn hdst hsrc hfit h1
    (fun w' h2 h3 h4 => hK _ _ (h w' h2 h3 h4))
  have hw : Region.wanted o (yielded ops a.tmps) = true := by simp [Region.wanted, hgd]
  rwa [if_pos hw] at this

theorem splice_u8s (l m : List UInt8) (rest : List Value) (off : Nat) (h : off + m.length ≤ l.length) : splice (u8s l ++ rest) off (u8s m) = u8s (splice l off m) ++ rest := by
  have e1 : (u8s l ++ rest).take off = (u8s l).take off := List.take_append_of_le_length (by simp; omega)
  have e2 : (u8s l ++ rest).drop (off + (u8s m).length) = (u8s l).drop (off + m.length) ++ rest := by
    rw [List.drop_append_of_le_length (by simp; omega)]; simp
  unfold splice
  rw [e1, e2, u8s_append, u8s_append, u8s_take, u8s_drop]
  simp

/-- Where a slice's bytes lie: A is the slice's address; nothing is asked where there are none. -/
def Rd (w : World) (A : Option Addr) (l : List UInt8) : Prop := 0 < l.length → ∃ b off, A = some ⟨b, off, none⟩ ∧ ∀ j x, l[j]? = some x → w.cell? ⟨b, off + j, none⟩ = some (u8v x)
theorem Rd.keep {w w' : World} {A : Option Addr} {l : List UInt8} (h : Rd w A l) (hk : ∀ b off j, A = some ⟨b, off, none⟩ → j < l.length → w'.cell? ⟨b, off + j, none⟩ = w.cell? ⟨b, off + j, none⟩) : Rd w' A l := by
  intro hl
  obtain ⟨b, off, hA, hc⟩ := h hl
  refine ⟨b, off, hA, fun j x hx => ?_⟩
  rw [hk b off j hA (by obtain ⟨hj, _⟩ := List.getElem?_eq_some_iff.1 hx; exact hj)]
  exact hc j x hx
theorem Rd.src {w : World} {A : Option Addr} {l : List UInt8} (h : Rd w A l) (n : Nat) : 0 < (u8s (l.take n)).length → ∃ ad, A = some ad ∧ ∀ j v, (u8s (l.take n))[j]? = some v → w.cell? (ad.add j) = some v := by
  intro hl
  obtain ⟨b, off, rfl, hc⟩ := h (by simp at hl; omega)
  refine ⟨_, rfl, fun j v hv => ?_⟩
  rw [u8s_get, List.getElem?_take] at hv
  split at hv
  · cases hx : l[j]? with
    | none => simp [hx] at hv
    | some x =>
      simp [hx] at hv
      subst hv
      have := hc j x hx
      unfold Addr.add
      split
      · simpa [*] using this
      · exact this
  · simp at hv
theorem Rd.srcAll {w : World} {A : Option Addr} {l : List UInt8} (h : Rd w A l) : 0 < (u8s l).length → ∃ ad, A = some ad ∧ ∀ j v, (u8s l)[j]? = some v → w.cell? (ad.add j) = some v := by
  have := h.src l.length
  rwa [List.take_length] at this
theorem Rd.setCell {w : World} {A : Option Addr} {l : List UInt8} (h : Rd w A l) {p : Addr} (hp : ∀ b off, A = some ⟨b, off, none⟩ → b ≠ p.block) (u : Value) : Rd (w.setCell p u) A l :=
  h.keep fun b off j hb _ => World.cell?_setCell_other _ _ _ _ (fun e => hp b off hb (by rw [e]))
theorem Rd.drew {w : World} {A : Option Addr} {l : List UInt8} (h : Rd w A l) : Rd w.drew A l := h
theorem Rd.drewN {w : World} {A : Option Addr} {l : List UInt8} (h : Rd w A l) (n : Nat) : Rd (w.drewN n) A l := h
theorem Rd.lt {w : World} {l : List UInt8} {b off : Nat} (h : Rd w (some ⟨b, off, none⟩) l) (hl : 0 < l.length) : b < w.heap.size := by
  obtain ⟨b', off', hA, hc⟩ := h hl
  cases hA
  have := hc 0 l[0] (by simp)
  exact World.block_lt_of_cell? _ _ this
theorem Rd.take {w : World} {A : Option Addr} {l : List UInt8} (h : Rd w A l) (n : Nat) : Rd w A (l.take n) := by
  intro hl
  obtain ⟨b, off, hA, hc⟩ := h (by simp at hl; omega)
  refine ⟨b, off, hA, fun j x hx => hc j x ?_⟩
  rw [List.getElem?_take] at hx
  split at hx
  · exact hx
  · simp at hx
theorem Rd.fr {S : List Nat} {w w' : World} {A : Option Addr} {l : List UInt8} (h : Rd w A l) (hf : Fr S w w') (hS : ∀ b off, A = some ⟨b, off, none⟩ → b ∉ S) : Rd w' A l := by
  intro hl
  obtain ⟨b, off, hA, hc⟩ := h hl
  refine ⟨b, off, hA, fun j x hx => ?_⟩
  have h1 := hc j x hx
  rw [hf.cell (p := ⟨b, off + j, none⟩) (World.block_lt_of_cell? _ _ h1) (hS b off hA)]
  exact h1

theorem Rd.fr0 {S : List Nat} {w w' : World} {A : Option Addr} {l : List UInt8} (h : Rd w A l) (hf : Fr S w w') (hS : 0 < l.length → ∀ b off, A = some ⟨b, off, none⟩ → b ∉ S) : Rd w' A l := fun hl => h.fr hf (hS hl) hl
/-- a slice's cells lie in blocks that are there -/
theorem Rd.blk_lt {w : World} {A : Option Addr} {l : List UInt8} (h : Rd w A l) : 0 < l.length → ∀ b off, A = some ⟨b, off, none⟩ → b < w.heap.size := fun hl b off hA => by
  subst hA
  exact h.lt hl

section
variable {P : Program} {ops : Array Oper} {rest : List Oper} {o : Oper} {a : Act} {w : World} {K : Act → World → Prop} {Q : Exit → Act → World → Prop}
/-- An operation whose run is known. -/
theorem wpList_val (hgd : o.guard = none) (v : Value) (w' : World) (hrun : (execOp a.eval o).run P w = .ok (.value v) w') (h : wpList P ops Q rest (a.put o.dst v) w') : wpList P ops Q (o :: rest) a w :=
  wpList_plain hgd fun _ hK => by
    unfold Oper.wp
    rw [hrun]
    exact hK _ _ h
theorem wpList_skipv (hgd : o.guard = none) (w' : World) (hrun : (execOp a.eval o).run P w = .ok .skip w') (h : wpList P ops Q rest (a.put o.dst undef) w') : wpList P ops Q (o :: rest) a w :=
  wpList_plain hgd fun _ hK => by
    unfold Oper.wp
    rw [hrun]
    exact hK _ _ h

theorem run_isAgg {ty : TypeId} {d : TypeDesc} (hu : P.underlying ty = some d) (hd : (match d with | .struct _ | .array _ _ => true | _ => false) = true) (w : World) : (isAgg ty).run P w = .ok true w := by
  unfold isAgg
  rw [Sem.run_bind, run_underlying hu w]
  cases d <;> simp_all
theorem addr_add0 (b off j : Nat) : (⟨b, off, none⟩ : Addr).add j = ⟨b, off + j, none⟩ := by unfold Addr.add; split <;> simp_all
theorem run_loadVar_agg (w : World) (b off : Nat) (ty : TypeId) (cs : List Value) (d : TypeDesc) (hc : ∀ j v, cs[j]? = some v → w.cell? ⟨b, off + j, none⟩ = some v)
    (hu : P.underlying ty = some d) (hd : (match d with | .struct _ | .array _ _ => true | _ => false) = true) (hi : (P.info? ty).map (·.size) = some cs.length) :
    (loadVar ty ⟨b, off, none⟩).run P w = .ok (.agg cs.toArray) w := by
  have hl := run_loadCells_list (P := P) w ⟨b, off, none⟩ cs (fun j v hv => by rw [addr_add0]; exact hc j v hv)
  cases hq : P.info? ty with
  | none => simp [hq] at hi
  | some i =>
    have hs : i.size = cs.length := by simpa [hq] using hi
    simp [loadVar, Sem.run_bind, run_isAgg hu hd, sizeOf, typeInfo, hq, hs, hl]
/-- A struct or an array is loaded out of the middle of a block. -/
theorem wpList_load_agg (hgd : o.guard = none) (ty : TypeId) (x : Operand) (ho : o.op = .load ty x) (b off : Nat) (hx : a.eval x = .pointer (some ⟨b, off, none⟩))
    (cs : List Value) (d : TypeDesc) (hc : ∀ j v, cs[j]? = some v → w.cell? ⟨b, off + j, none⟩ = some v)
    (hu : P.underlying ty = some d) (hd : (match d with | .struct _ | .array _ _ => true | _ => false) = true) (hi : (P.info? ty).map (·.size) = some cs.length)
    (h : wpList P ops Q rest (a.put o.dst (.agg cs.toArray)) w) : wpList P ops Q (o :: rest) a w :=
  wpList_val hgd _ w (by unfold execOp; simp [ho, hx, Instr.loadAt, Instr.sureAddr, run_loadVar_agg w b off ty cs d hc hu hd hi]) h

/-- A new variable of a struct's or an array's type. -/
theorem wpList_alloc_agg (hgd : o.guard = none) (ty : TypeId) (ho : o.op = .alloc ty) (Z : Array Value) (hz : (P.info? ty).map (·.zero) = some (some (.agg Z)))
    (h : wpList P ops Q rest (a.put o.dst (.pointer (some ⟨w.heap.size, 0, none⟩))) (w.alloc (.cells Z ty))) : wpList P ops Q (o :: rest) a w := by
  refine wpList_val hgd _ _ ?_ h
  cases hq : P.info? ty with
  | none => simp [hq] at hz
  | some i =>
    have hs : i.zero = some (.agg Z) := by simpa [hq] using hz
    unfold execOp
    simp [ho, Instr.alloc, zeroValue, typeInfo, hq, hs, newVar, newRow, newObj, Value.cells, Sem.run]

/-- A struct or an array is stored into a block that is known whole. -/
theorem wpList_store_agg (hgd : o.guard = none) (ty : TypeId) (p x : Operand) (ho : o.op = .store ty p x) (g off : Nat) (hp : a.eval p = .pointer (some ⟨g, off, none⟩))
    (cs : List Value) (hx : a.eval x = .agg cs.toArray) (cur : List Value) (t : TypeId) (hg : Blk w g t cur.toArray) (hfit : off + cs.length ≤ cur.length) (h1 : ∀ v ∈ cs, v.oneCell' = true)
    (hi : (P.info? ty).map (·.size) = some cs.length)
    (h : wpList P ops Q rest (a.put o.dst undef) (w.setRow g (splice cur off cs).toArray)) : wpList P ops Q (o :: rest) a w := by
  refine wpList_skipv hgd _ ?_ h
  have hst := run_storeCells_at P g off t cs 0 cur.toArray w hg (by simpa using hfit) h1
  cases hq : P.info? ty with
  | none => simp [hq] at hi
  | some i =>
    have hs : i.size = cs.length := by simpa [hq] using hi
    unfold execOp
    simp only [ho, hp, hx]
    simp [Instr.storeAt, Instr.sureAddr, storeVar, sizeOf, typeInfo, hq, hs, Value.cells, hst, splice]

/-- 'make([]T, n)', T of as many cells as its zero value has. -/
theorem run_make_n (t e : TypeId) (z : Value) (size bytes : Nat) (ht : P.underlying t = some (.slice e)) (hi : (P.info? e).map (fun i => (i.zero, i.size, i.bytes)) = some (some z, size, bytes))
    (n : Nat) (hbytes : bytes * n ≤ 281474976710656) (h63 : n ≤ 9223372036854775807) (w : World) :
    (Instr.makeSlice t (.int .i64 (n : Int)) (.int .i64 (n : Int))).run P w = .ok (.slice (some ⟨w.heap.size, 0, none⟩) n n) (w.alloc (.cells (madeCells z.cells (n * size)) e)) := by
  obtain ⟨i, hi', hzz⟩ := Option.map_eq_some_iff.1 hi
  clear hi
  simp only [Prod.mk.injEq] at hzz
  obtain ⟨hz, rfl, rfl⟩ := hzz
  have hb : (i.bytes : Int) * (n : Int) ≤ 281474976710656 := by
    have h : ((i.bytes * n : Nat) : Int) ≤ 281474976710656 := by omega
    rwa [Int.natCast_mul] at h
  have hr := run_make (P := P) w t e i z ht hi' hz .i64 .i64 n n (by omega) (by omega) hb (by omega)
  simp only [Int.toNat_natCast] at hr
  exact hr
end

/-- A cell that was there stays behind new blocks. -/
theorem cell_alloc {w : World} {a : Addr} {v : Value} (h : w.cell? a = some v) (o : Obj) : (w.alloc o).cell? a = some v := by
  rw [World.cell?_alloc_lt _ _ _ (World.block_lt_of_cell? w a h)]; exact h
theorem cell_alloc2 {w : World} {a : Addr} {v : Value} (h : w.cell? a = some v) (o o' : Obj) : ((w.alloc o).alloc o').cell? a = some v := cell_alloc (cell_alloc h o) o'
theorem cell_alloc3 {w : World} {a : Addr} {v : Value} (h : w.cell? a = some v) (o o' o'' : Obj) : (((w.alloc o).alloc o').alloc o'').cell? a = some v := cell_alloc (cell_alloc2 h o o') o''

/-- n zero bytes -/
def zs (n : Nat) : List Value := u8s (List.replicate n 0)
theorem zs_length (n : Nat) : (zs n).length = n := by simp [zs]
theorem zs_eq (n : Nat) : zs n = List.replicate n (u8v 0) := by simp [zs, u8s]
theorem zs_one (n : Nat) : ∀ u ∈ zs n, u.oneCell' = true := u8s_one _
theorem madeCells_agg (k m : Nat) (hk : 0 < k) : madeCells (zs k).toArray m = (zs m).toArray := by
  apply Array.ext
  · simp [madeCells, zs_length]
  · intro i h1 h2
    have : i % k < k := Nat.mod_lt _ hk
    simp only [madeCells, Array.getElem_map, Array.getElem_range, List.getElem_toArray, zs_eq, List.getElem_replicate]
    simp [this]
theorem madeCells_one (m : Nat) : madeCells #[.int .u8 0] m = (zs m).toArray := by
  have h := madeCells_agg 1 m (by omega)
  have e : (zs 1).toArray = #[.int .u8 0] := rfl
  rwa [e] at h

section
variable {P : Program} {ops : Array Oper} {rest : List Oper} {o : Oper} {a : Act} {w : World} {K : Act → World → Prop} {Q : Exit → Act → World → Prop} {E : Prop}
theorem step_val (hw : Region.wanted o (yielded ops a.tmps) = true) (v : Value) (w' : World) (hrun : (execOp a.eval o).run P w = .ok (.value v) w') (h : K (a.put o.dst v) w') :
    if Region.wanted o (yielded ops a.tmps) = true then Oper.wp P o a w K Q else E := by
  rw [if_pos hw]
  unfold Oper.wp
  rw [hrun]
  exact h

/-- a text's bytes -/
def str (l : List UInt8) : ByteArray := ⟨l.toArray⟩
theorem str_data (l : List UInt8) : (str l).data.toList = l := rfl
theorem str_toList (l : List UInt8) : (str l).toList = l := by simp [str]
theorem str_inj {l m : List UInt8} : str l = str m ↔ l = m := ⟨fun h => by simpa [str] using h, fun h => by rw [h]⟩
theorem str_size (l : List UInt8) : (str l).size = l.length := by simp [str, ByteArray.size]

theorem run_conv_str {src dst e : TypeId} (hs : P.underlying src = some (.slice e)) (he : P.underlying e = some (.int .u8)) (hd : P.underlying dst = some .string)
    {A : Option Addr} {l : List UInt8} (h : Rd w A l) (c : Nat) : (convert src dst (.slice A l.length c)).run P w = .ok (.string (str l)) w := by
  rcases A with _ | ad
  · have hl : l = [] := by
      rcases Nat.eq_zero_or_pos l.length with h0 | h0
      · exact List.eq_nil_of_length_eq_zero h0
      · obtain ⟨_, _, hA, _⟩ := h h0; cases hA
    subst hl
    rw [run_convert_bytes_nil w src e hs he _ _ dst hd]
    rfl
  · rcases Nat.eq_zero_or_pos l.length with h0 | h0
    · have hl : l = [] := List.eq_nil_of_length_eq_zero h0
      subst hl
      rw [run_convert_bytes_string w src dst e _ _ c hs he hd]
      have := run_bytesToString (P := P) w ad 0 c [] (by simpa using run_loadCells_list (P := P) w ad [] (by simp))
      exact this
    · obtain ⟨b, off, hA, hc⟩ := h h0
      cases hA
      have hr := run_convert_bytes_arg (P := P) w src e hs he b off l.length c (l.map fun x => (x.toNat : Int)) (by simp) (fun i hi => by
        rw [hc i l[i] (by simp [hi])]
        simp [hi]) dst hd
      rw [hr]
      congr 2
      simp [strOfNums, str, Function.comp_def]

theorem exec_conv_str {src dst e : TypeId} {x : Operand} (ho : o.op = .convert src dst x) (hs : P.underlying src = some (.slice e)) (he : P.underlying e = some (.int .u8)) (hd : P.underlying dst = some .string)
    {A : Option Addr} {l : List UInt8} {c : Nat} (hx : a.eval x = .slice A l.length c) (h : Rd w A l) : (execOp a.eval o).run P w = .ok (.value (.string (str l))) w := by
  unfold execOp
  simp [ho, hx, run_conv_str hs he hd h c]

/-- append onto a row of the call's own, whatever the source. -/
theorem run_append_any (base : Nat) (t ty e : TypeId) (z : Value) (size bytes : Nat) (ht : P.underlying t = some (.slice e)) (hi : (P.info? e).map (fun i => (i.zero, i.size, i.bytes)) = some (some z, size, bytes))
    (hzs : z.cells.size = size) (hsz : 0 < size)
    (v : Value) (n : Nat) (xs : List Value) (hown : w.ownsRow base e size v n xs)
    (A : Option Addr) (m c : Nat) (news : List Value) (hl : news.length = m * size) (hsrc : 0 < news.length → ∃ ad, A = some ad ∧ ∀ j u, news[j]? = some u → w.cell? (ad.add j) = some u) (h1 : ∀ u ∈ news, u.oneCell' = true)
    (h63 : n + m ≤ maxLen) (hbytes : (n + m) * bytes ≤ 140737488355328) (hbase : base ≤ w.heap.size) :
    ∃ v' w', (Builtin.append_ #[t, t] ty #[v, .slice A m c]).run P w = .ok v' w' ∧ w'.ownsRow base e size v' (n + m) (xs ++ news) ∧ w.grownBy w' v.ownBlock ∧
      (v'.ownBlock = v.ownBlock ∨ v'.ownBlock = some w.heap.size) := by
  obtain ⟨i, hi', hzz⟩ := info_parts hi
  obtain ⟨hz, hsize, hby⟩ := hzz
  rcases A with _ | ad
  · have hm : m = 0 := by
      rcases Nat.eq_zero_or_pos m with h0 | h0
      · exact h0
      · obtain ⟨ad, h, _⟩ := hsrc (by rw [hl]; exact Nat.mul_pos h0 hsz)
        cases h
    subst hm
    have hn : news = [] := List.eq_nil_of_length_eq_zero (by simpa using hl)
    subst hn
    refine ⟨v, w, ?_, by simpa using hown, World.grownBy.refl w _, .inl rfl⟩
    rcases hown.2 with ⟨rfl, rfl⟩ | ⟨g, cap, cur, rfl, _, _, hnc, _⟩
    · simp [Builtin.append_, run_underlying ht, sizeOf, typeInfo, hi', Builtin.lenOf, Builtin.firstCells]
    · simp [Builtin.append_, run_underlying ht, sizeOf, typeInfo, hi', Builtin.lenOf, Builtin.firstCells, hnc, storeCells]
  · have hcells : ∀ j u, news[j]? = some u → w.cell? (ad.add j) = some u := by
      intro j u hu
      obtain ⟨ad', h, hc⟩ := hsrc (by obtain ⟨hj, _⟩ := List.getElem?_eq_some_iff.1 hu; omega)
      cases h
      exact hc j u hu
    obtain ⟨v', w', hrun, h2, h3, _, h5⟩ := run_append_own_at (P := P) w base t ty e i z size bytes ht hi' hz hsize hby hzs hsz v n xs hown ad m c news hl hcells h1 h63 hbytes hbase
    exact ⟨v', w', hrun, h2, h3, h5⟩

theorem step_append (hw : Region.wanted o (yielded ops a.tmps) = true) (s x : Operand) (t : TypeId)
    (ho : o.op = .call { callee := .builtin .append, args := #[s, x], argTypes := #[t, t] })
    (base : Nat) (e : TypeId) (z : Value) (size bytes : Nat) (ht : P.underlying t = some (.slice e)) (hi : (P.info? e).map (fun i => (i.zero, i.size, i.bytes)) = some (some z, size, bytes))
    (hzs : z.cells.size = size) (hsz : 0 < size)
    (v : Value) (n : Nat) (xs : List Value) (hs : a.eval s = v) (hown : w.ownsRow base e size v n xs)
    (A : Option Addr) (m c : Nat) (news : List Value) (hx : a.eval x = .slice A m c) (hl : news.length = m * size) (hsrc : 0 < news.length → ∃ ad, A = some ad ∧ ∀ j u, news[j]? = some u → w.cell? (ad.add j) = some u) (h1 : ∀ u ∈ news, u.oneCell' = true)
    (h63 : n + m ≤ maxLen) (hbytes : (n + m) * bytes ≤ 140737488355328) (hbase : base ≤ w.heap.size)
    (h : ∀ v' w', w'.ownsRow base e size v' (n + m) (xs ++ news) → Below base w w' → w.grownBy w' v.ownBlock → (v'.ownBlock = v.ownBlock ∨ v'.ownBlock = some w.heap.size) → K (a.put o.dst v') w') :
    if Region.wanted o (yielded ops a.tmps) = true then Oper.wp P o a w K Q else E := by
  obtain ⟨v', w', hrun, h2, h3, h4⟩ := run_append_any (P := P) (w := w) base t o.type e z size bytes ht hi hzs hsz v n xs hown A m c news hl hsrc h1 h63 hbytes hbase
  refine step_val hw v' w' ?_ (h v' w' h2 ((Below.refl base w).grown h3 hbase (fun k hk => (hown.lt k hk).1)) h3 h4)
  unfold execOp
  simp only [ho, resolve, invoke, builtin, Sem.run_bind, Sem.run_pure, Result.andThen_ok, List.map_toArray, List.map_cons, List.map_nil, hs, hx, hrun]

theorem wpList_append (hgd : o.guard = none) (s x : Operand) (t : TypeId)
    (ho : o.op = .call { callee := .builtin .append, args := #[s, x], argTypes := #[t, t] })
    (base : Nat) (e : TypeId) (z : Value) (size bytes : Nat) (ht : P.underlying t = some (.slice e)) (hi : (P.info? e).map (fun i => (i.zero, i.size, i.bytes)) = some (some z, size, bytes))
    (hzs : z.cells.size = size) (hsz : 0 < size)
    (v : Value) (n : Nat) (xs : List Value) (hs : a.eval s = v) (hown : w.ownsRow base e size v n xs)
    (A : Option Addr) (m c : Nat) (news : List Value) (hx : a.eval x = .slice A m c) (hl : news.length = m * size) (hsrc : 0 < news.length → ∃ ad, A = some ad ∧ ∀ j u, news[j]? = some u → w.cell? (ad.add j) = some u) (h1 : ∀ u ∈ news, u.oneCell' = true)
    (h63 : n + m ≤ maxLen) (hbytes : (n + m) * bytes ≤ 140737488355328) (hbase : base ≤ w.heap.size)
    (h : ∀ v' w', w'.ownsRow base e size v' (n + m) (xs ++ news) → Below base w w' → w.grownBy w' v.ownBlock → (v'.ownBlock = v.ownBlock ∨ v'.ownBlock = some w.heap.size) → wpList P ops Q rest (a.put o.dst v') w') :
    wpList P ops Q (o :: rest) a w := by
  obtain ⟨v', w', hrun, h2, h3, h4⟩ := run_append_any (P := P) (w := w) base t o.type e z size bytes ht hi hzs hsz v n xs hown A m c news hl hsrc h1 h63 hbytes hbase
  refine wpList_val hgd v' w' ?_ (h v' w' h2 ((Below.refl base w).grown h3 hbase (fun k hk => (hown.lt k hk).1)) h3 h4)
  unfold execOp
  simp only [ho, resolve, invoke, builtin, Sem.run_bind, Sem.run_pure, Result.andThen_ok, List.map_toArray, List.map_cons, List.map_nil, hs, hx, hrun]
end

/-- The address of element j of a slice whose address is told by an equation that the walk does not see. -/
theorem run_index_slice' {P : Program} (w : World) {t e : TypeId} {size : Nat} (ht : P.underlying t = some (.slice e)) (hi : (P.info? e).map (·.size) = some size)
    {A : Option Addr} {b off n c j : Nat} (hA : A = some ⟨b, off, none⟩) (hj : j < n) :
    (Instr.indexAt t (.slice A n c) (.int .i64 (j : Int))).run P w = .ok (.pointer (some ⟨b, off + j * size, none⟩)) w := by
  subst hA
  cases hq : P.info? e with
  | none => simp [hq] at hi
  | some i =>
    have hs : i.size = size := by simpa [hq] using hi
    have h0 : (0 : Int) ≤ j ∧ (j : Int) < n := by omega
    simp [Instr.indexAt, asIntOf, run_underlying ht, sizeOf, typeInfo, hq, hs, h0, addr_add0, hj]

/-- Where a slice's numbers lie. -/
def RdI (w : World) (A : Option Addr) (l : List Int) : Prop := 0 < l.length → ∃ b off, A = some ⟨b, off, none⟩ ∧ ∀ j x, l[j]? = some x → w.cell? ⟨b, off + j, none⟩ = some (.int .i64 x)
theorem RdI.fr {S : List Nat} {w w' : World} {A : Option Addr} {l : List Int} (h : RdI w A l) (hf : Fr S w w') (hS : ∀ b off, A = some ⟨b, off, none⟩ → b ∉ S) : RdI w' A l := by
  intro hl
  obtain ⟨b, off, hA, hc⟩ := h hl
  refine ⟨b, off, hA, fun j x hx => ?_⟩
  have h1 := hc j x hx
  rw [hf.cell (p := ⟨b, off + j, none⟩) (World.block_lt_of_cell? _ _ h1) (hS b off hA)]
  exact h1

theorem RdI.fr0 {S : List Nat} {w w' : World} {A : Option Addr} {l : List Int} (h : RdI w A l) (hf : Fr S w w') (hS : 0 < l.length → ∀ b off, A = some ⟨b, off, none⟩ → b ∉ S) : RdI w' A l := fun hl => h.fr hf (hS hl) hl

theorem Fr.thenBelow {S : List Nat} {w0 w w' : World} (h : Fr S w0 w) (k : Below w0.heap.size w w') : Fr S w0 w' :=
  ⟨k.os.trans h.os, k.tape.trans h.tape, k.output.trans h.output, Nat.le_trans h.size k.size, fun i hi hn => (k.block i hi).trans (h.block i hi hn)⟩
theorem own_fr {w w' : World} {base : Nat} {e : TypeId} {size : Nat} {v : Value} {n : Nat} {xs : List Value} {S : List Nat} (h : w.ownsRow base e size v n xs) (hf : Fr S w w') (hn : ∀ k, v.ownBlock = some k → k ∉ S) : w'.ownsRow base e size v n xs := by
  refine ⟨h.1, ?_⟩
  rcases h.2 with h0 | ⟨g, cap, cur, rfl, hb, hg, r⟩
  · exact .inl h0
  · exact .inr ⟨g, cap, cur, rfl, hb, (hf.block g (Array.getElem?_eq_some_iff.1 hg).1 (hn g rfl)).trans hg, r⟩
theorem own_mono {w : World} {base base' : Nat} {e : TypeId} {size : Nat} {v : Value} {n : Nat} {xs : List Value} (h : w.ownsRow base e size v n xs) (hb : base' ≤ base) : w.ownsRow base' e size v n xs := by
  refine ⟨h.1, ?_⟩
  rcases h.2 with h0 | ⟨g, cap, cur, rfl, hb', r⟩
  · exact .inl h0
  · exact .inr ⟨g, cap, cur, rfl, by omega, r⟩

theorem own_blk_ne {w : World} {g base : Nat} {e t : TypeId} {size n : Nat} {v : Value} {xs : List Value} {cs : Array Value} (h : w.ownsRow base e size v n xs) (hg : Blk w g t cs) (hne : e ≠ t) : v.ownBlock ≠ some g := by
  rcases h.2 with ⟨rfl, _⟩ | ⟨g', cap, cur, rfl, _, hh, _⟩
  · simp [Value.ownBlock]
  · intro he
    have : g' = g := by simpa [Value.ownBlock] using he
    subst this
    exact Blk.ne_ (t := e) hh hg hne rfl
theorem grown_fr {w w' : World} {v : Value} {S : List Nat} (hg : w.grownBy w' v.ownBlock) (hk : ∀ k, v.ownBlock = some k → k ∈ S) : Fr S w w' :=
  (Fr.refl S w).grown hg (fun k h => .inl (hk k h))

theorem own_form {w : World} {base : Nat} {e : TypeId} {v : Value} {n : Nat} {l : List UInt8} (h : w.ownsRow base e 1 v n (u8s l)) :
    ∃ A c, v = .slice A l.length c ∧ w.ownsRow base e 1 (.slice A l.length c) l.length (u8s l) := by
  have hn : n = l.length := by have := h.1; simp at this; omega
  subst hn
  have h' := h
  rcases h.2 with ⟨rfl, h0⟩ | ⟨g, cap, cur, rfl, hb, hg, hnc, _, hsz, htk⟩
  · exact ⟨none, 0, by rw [h0], by rw [h0] at h' ⊢; exact h'⟩
  · exact ⟨_, cap, rfl, h'⟩

/-- A slice of bytes of the call's own, as the reader sees it. -/
theorem own_rd {w : World} {base : Nat} {e : TypeId} {v : Value} {n : Nat} {l : List UInt8} (h : w.ownsRow base e 1 v n (u8s l)) :
    ∃ A c, v = .slice A l.length c ∧ n = l.length ∧ l.length ≤ c ∧ Rd w A l ∧ (∀ b off, A = some ⟨b, off, none⟩ → base ≤ b ∧ off = 0 ∧ v.ownBlock = some b ∧ b < w.heap.size) ∧ (∀ ad, A = some ad → ad = ⟨ad.block, 0, none⟩) := by
  have hn : n = l.length := by have := h.1; simp at this; omega
  subst hn
  rcases h.2 with ⟨rfl, h0⟩ | ⟨g, cap, cur, rfl, hb, hg, hnc, _, hsz, htk⟩
  · refine ⟨none, 0, by rw [h0], rfl, by omega, fun hl => by omega, by simp, by simp⟩
  · refine ⟨_, cap, rfl, rfl, hnc, fun hl => ⟨g, 0, rfl, fun j x hx => ?_⟩, fun b off hA => ?_, fun ad hA => by cases hA; rfl⟩
    · have hj : j < l.length := (List.getElem?_eq_some_iff.1 hx).1
      have := h.cellAt j (by omega)
      rw [Nat.zero_add, this, u8s_get, hx]; rfl
    · cases hA
      exact ⟨hb, rfl, rfl, (Array.getElem?_eq_some_iff.1 hg).1⟩
end Go.Proofs.Ytmgbimdebhhckaa
