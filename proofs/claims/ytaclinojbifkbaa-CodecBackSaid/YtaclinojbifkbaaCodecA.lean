/- The document's example. -/
import Derived.Test.YtaclinojbifkbaaReaderB
import Derived.Lib.SlBytesConst
import Derived.Lib.SmallJoins
namespace Go.Proofs.Ytaclinojbifkbaa
open Go.RowKit

def Quiet (v : Value) (w : World) (e : Ending) (w' : World) : Prop := e = .returned v ∧ Fr [] w w'

theorem isW_new (w : World) : IsW (w.alloc (.cells #[.slice none 0 0, .int .i64 0] 27)) w.heap.size [] [] 0 :=
  ⟨⟨.slice none 0 0, Blk.new _ _ _, World.ownsRow_nil _ _ _ _, by simp [Value.ownBlock]⟩, by simp⟩
theorem own_bytes_rd {w w' : World} {l : List UInt8} {A : Option Addr} {c : Nat} (h : w'.ownsRow w.heap.size 5 1 (.slice A l.length c) l.length (u8s l)) : Rd w' A l := by
  obtain ⟨A', c', e', _, _, hrd, _⟩ := own_rd h
  cases e'
  exact hrd

theorem IsR.glt {w : World} {p g : Nat} {x : UInt8} {l : List UInt8} {e : Int} (h : IsR w p g (x :: l) e) : g < w.heap.size := by
  obtain ⟨⟨A, c, _, hr, _, ha⟩, _⟩ := h
  obtain ⟨b, off, rfl, hc⟩ := hr (by simp)
  have := (ha _ rfl).1
  simp at this
  subst this
  exact World.block_lt_of_cell? _ _ (hc 0 x rfl)

/-- the bytes told, of a writer that refused nothing -/
def BytesOk (w : World) (m : Nat) (l : List UInt8) (e : Ending) (w' : World) : Prop :=
  ∃ A c, e = .returned (.slice A m c) ∧ m ≤ c ∧ Rd w' A l ∧ (∀ b off, A = some ⟨b, off, none⟩ → w.heap.size ≤ b ∧ off = 0 ∧ b < w'.heap.size) ∧ (∀ ad, A = some ad → ad = ⟨ad.block, 0, none⟩) ∧ Fr [] w w'
theorem bytes_ok (w : World) (p : Nat) (ob : List Nat) (bs : List UInt8) (h : IsW w p ob bs 0) (m : Nat) (hm : bs.length = m) (hbd : m ≤ 1000000000) :
    Calls Try.prog 9 #[.pointer (some ⟨p, 0, none⟩)] w (BytesOk w m bs) := by
  subst hm
  refine (bytes_calls w p ob bs 0 h hbd).mono ?_
  rw [if_pos rfl]
  rintro e w' ⟨A, c, rfl, ho, hf⟩
  obtain ⟨A', c', e', _, hc, hrd, hb, hsp⟩ := own_rd ho
  cases e'
  exact ⟨A, c, rfl, hc, hrd, fun b off hA => ⟨(hb b off hA).1, (hb b off hA).2.1, (hb b off hA).2.2.2⟩, hsp, hf⟩

theorem cnt_al_yes (w : World) (p g : Nat) (h : IsR w p g [0, 1, 2] 0) :
    Calls Try.prog 33 #[.pointer (some ⟨p, 0, none⟩), .int .i64 300] w (RPost w p g (.int .i64 258) [] 0) := by
  have := rcount_calls w p g 0 1 2 [] h (by decide) 300
  rw [if_pos (by decide)] at this
  exact this
theorem cnt_al_no (w : World) (p g : Nat) (h : IsR w p g [0, 1, 2] 0) :
    Calls Try.prog 33 #[.pointer (some ⟨p, 0, none⟩), .int .i64 257] w (RPost w p g (.int .i64 0) [] 10) := by
  have := rcount_calls w p g 0 1 2 [] h (by decide) 257
  rw [if_neg (by decide)] at this
  exact this
def alB : List UInt8 := [] ++ countB 258 ++ numB (-1) ++ (countB 2 ++ [97, 98])
theorem alB_length : alB.length = 16 := by decide +kernel

/-- A writer that was made behind w0, with all that it wrote. -/
structure Wr (w0 w : World) (p : Nat) (ob : List Nat) (bs : List UInt8) (er : Int) : Prop where
  is_ : IsW w p ob bs er
  new_ : w0.heap.size ≤ p
  obs : ∀ k ∈ ob, w0.heap.size ≤ k ∧ k < w.heap.size
  fr_ : Fr [] w0 w

theorem Wr.fr {w0 w w' : World} {p : Nat} {ob : List Nat} {bs : List UInt8} {er : Int} {S : List Nat} (h : Wr w0 w p ob bs er) (hf : Fr S w w') (hp : p ∉ S) (ho : ∀ k ∈ ob, k ∉ S) (hS : ∀ x ∈ S, w0.heap.size ≤ x) : Wr w0 w' p ob bs er :=
  ⟨h.is_.fr hf hp ho, h.new_, fun k hk => ⟨(h.obs k hk).1, Nat.lt_of_lt_of_le (h.obs k hk).2 hf.size⟩, h.fr_.trans' hf (fun x hx => .inr (hS x hx))⟩
theorem Wr.lt {w0 w : World} {p : Nat} {ob : List Nat} {bs : List UInt8} {er : Int} (h : Wr w0 w p ob bs er) : p < w.heap.size := h.is_.lt
/-- nothing there was touched -/
theorem Wr.fr0 {w0 w w' : World} {p : Nat} {ob : List Nat} {bs : List UInt8} {er : Int} (h : Wr w0 w p ob bs er) (hf : Fr [] w w') : Wr w0 w' p ob bs er := h.fr hf (by simp) (by simp) (by simp)
/-- only newer blocks were touched -/
theorem Wr.tight {w : World} {p : Nat} {ob : List Nat} {bs : List UInt8} {er : Int} (h : IsW w p ob bs er) : ∃ ob', IsW w p ob' bs er ∧ ∀ k ∈ ob', k ∈ ob ∧ k < w.heap.size := by
  obtain ⟨⟨v, hb, hown, hk⟩, hout⟩ := h
  refine ⟨v.ownBlock.toList, ⟨⟨v, hb, hown, fun k hk => by simpa using hk⟩, fun hm => ?_⟩, fun k hk' => ?_⟩
  · simp at hm; exact hout (hk p hm)
  · simp at hk'
    refine ⟨hk k hk', ?_⟩
    exact (hown.lt k hk').2

def WrOut (w0 w : World) (p : Nat) (ob : List Nat) (bs : List UInt8) (er : Int) (e : Ending) (w' : World) : Prop :=
  e = .returned (.tuple #[]) ∧ ∃ ob', Wr w0 w' p ob' bs er ∧ (∀ k ∈ ob', k ∈ ob ∨ w.heap.size ≤ k) ∧ Fr (p :: ob) w w'
theorem Wr.op {w0 w : World} {p : Nat} {ob : List Nat} {bs bs' : List UInt8} {er er' : Int} (h : Wr w0 w p ob bs er) {f : Nat} {args : Array Value} (hc : Calls Try.prog f args w (WOut w p ob bs' er')) :
    Calls Try.prog f args w (WrOut w0 w p ob bs' er') := by
  refine hc.mono ?_
  rintro e w' ⟨rfl, ob', hi, hk, hf⟩
  obtain ⟨ob2, hi2, hk2⟩ := Wr.tight hi
  have hs := h.fr_.size
  have hl : ∀ x ∈ p :: ob, w0.heap.size ≤ x := fun x hx => by
    rcases List.mem_cons.1 hx with rfl | hx
    · exact h.new_
    · exact (h.obs x hx).1
  refine ⟨rfl, ob2, ⟨hi2, h.new_, fun k hk' => ⟨?_, (hk2 k hk').2⟩, h.fr_.trans' hf (fun x hx => .inr (hl x hx))⟩, fun k hk' => hk k (hk2 k hk').1, hf⟩
  rcases hk k (hk2 k hk').1 with h1 | h1
  · exact (h.obs k h1).1
  · omega
theorem Wr.new {w0 w : World} (h : Fr [] w0 w) : Wr w0 (w.alloc (.cells #[.slice none 0 0, .int .i64 0] 27)) w.heap.size [] [] 0 :=
  ⟨isW_new w, h.size, by simp, h.alloc _⟩

theorem rd_marked (w : World) (l : List UInt8) (t : TypeId) (fr : Nat × Nat) : Rd (w.alloc (.cells (u8s l).toArray t fr)) (some ⟨w.heap.size, 0, none⟩) l := fun _ => ⟨_, 0, rfl, fun j x hx => by
  rw [World.cell?_alloc_mark, Nat.zero_add]; simp [u8s, hx]⟩

set_option maxHeartbeats 1000000 in
theorem alive_calls (w : World) : Calls Try.prog 7 #[] w (Quiet (.bool true) w) := by
  have hneq : ∀ (a : Addr) (w : World), (binOp .eql 53 (.pointer (some a)) (.pointer none)).run Try.prog w = .ok (.bool false) w := fun a w => by kernel_rfl
  have hcs := fun (w : World) (C : Array Value) (n c : Nat) => Lib.run_convert_bytes_const (P := Try.prog) w 22 5 C n c Try.underlying22 Try.underlying5
  go_enter Try.func7, Try.ntmps7
  go_wp2_with fail
  have W0 := Lib.hid (Wr.new (Fr.refl [] w))
  refine (W0.out.op (count_yes _ _ _ _ _ W0.out.is_ 258 (by decide) (by decide))).mono ?_
  rintro e w1 ⟨rfl, ob1, i1, _, _⟩
  have W1 := Lib.hid i1; clear i1
  go_wp2_with fail
  refine (W1.out.op (num_calls w1 _ _ _ _ W1.out.is_ (-1) (by decide) (by decide) (by decide))).mono ?_
  rintro e w2 ⟨rfl, ob2, i2, _, _⟩
  have W2 := Lib.hid i2; clear i2
  go_wp2_with fail
  have hW2 := W2.out.fr0 ((Fr.refl [] w2).alloc (.cells #[.int .u8 97, .int .u8 98] 5 (2, 3)))
  refine (hW2.op (text_calls _ _ _ _ _ hW2.is_ (some ⟨w2.heap.size, 0, none⟩) 2 2 [97, 98] rfl (rd_marked w2 [97, 98] _ _) ?_ (by decide) (by decide +kernel))).mono ?_
  · intro _ b off hb
    have h1 := W2.out.lt
    obtain ⟨rfl, _⟩ : w2.heap.size = b ∧ 0 = off := by simpa using hb
    exact ⟨by omega, fun hm => by have := W2.out.obs _ hm; omega, by simp⟩
  rintro e w3 ⟨rfl, ob3, i3, _, _⟩
  have W3 : Hid (Wr w w3 w.heap.size ob3 alB 0) := Lib.hid i3
  clear i3 hW2
  go_wp2_with fail
  have hf := (Fr.refl [] w3).alloc (.cells #[.int .u8 0, .int .u8 1, .int .u8 2] 5)
  refine (newr_calls _ (some ⟨w3.heap.size, 0, none⟩) 3 3 [0, 1, 2] rfl (rd_cells (Blk.new w3 5 #[.int .u8 0, .int .u8 1, .int .u8 2])) (by decide)).mono ?_
  rintro e w4 ⟨p4, g4, rfl, r4, hp4, hg4, f4⟩
  have W4 := Lib.hid (W3.out.fr0 (hf.trans f4))
  have R4 := Lib.hid r4
  have P4 := Lib.hid (show w3.heap.size ≤ p4 by simp at hp4; omega)
  clear hf r4 hp4 hg4 f4
  go_wp2_with fail
  have hf := (Fr.refl [] w4).alloc (.cells #[.int .u8 0, .int .u8 1, .int .u8 2] 5)
  refine (newr_calls _ (some ⟨w4.heap.size, 0, none⟩) 3 3 [0, 1, 2] rfl (rd_cells (Blk.new w4 5 #[.int .u8 0, .int .u8 1, .int .u8 2])) (by decide)).mono ?_
  rintro e w5 ⟨p5, g5, rfl, r5, hp5, hg5, f5⟩
  have W5 := Lib.hid (W4.out.fr0 (hf.trans f5))
  have R5 := Lib.hid (R4.out.fr (hf.trans f5) (by simp) (by simp)); have S5 := Lib.hid r5
  have P5 := Lib.hid (show w4.heap.size ≤ p5 ∧ w4.heap.size ≤ g5 by simp at hp5 hg5; omega)
  have Q5 := Lib.hid (show p4 < w4.heap.size ∧ g4 < w4.heap.size from ⟨R4.out.lt, R4.out.glt⟩)
  clear hf r5 hp5 hg5 f5
  go_wp2_with fail
  refine (cnt_al_yes w5 _ _ R5.out).mono ?_
  rintro e w6 ⟨rfl, r6, f6⟩
  have R6 := Lib.hid r6
  have S6 := Lib.hid (S5.out.fr f6 (by have := P5.out; have := Q5.out; simp; omega) (by have := P5.out; have := Q5.out; simp; omega))
  have W6 := Lib.hid (W5.out.fr f6 (by have := P4.out; have := W3.out.lt; simp; omega) (fun k hk => by have := W3.out.obs k hk; have := P4.out; simp; omega) (by have := P4.out; have := W3.out.new_; have := W3.out.lt; simp; omega))
  clear r6 f6
  go_wp2_with fail
  refine (cnt_al_no w6 _ _ S6.out).mono ?_
  rintro e w7 ⟨rfl, s7, f7⟩
  have R7 := Lib.hid (R6.out.fr f7 (by have := P5.out; have := Q5.out; simp; omega) (by have := P5.out; have := Q5.out; simp; omega))
  have S7 := Lib.hid s7
  have W7 := Lib.hid (W6.out.fr f7 (by have := P4.out; have := P5.out; have := Q5.out; have := W3.out.lt; simp; omega) (fun k hk => by have := W3.out.obs k hk; have := P4.out; have := P5.out; have := Q5.out; simp; omega) (by have := P4.out; have := P5.out; have := Q5.out; have := W3.out.new_; have := W3.out.lt; simp; omega))
  clear s7 f7
  have hst := str_toList
  have hal : alB = [0, 1, 2, 127, 255, 255, 255, 255, 255, 255, 255, 0, 0, 2, 97, 98] := by decide +kernel
  go_wp2_with (first
    | (go_at_call 22; (with_reducible refine (err_calls _ _ _ _ _ W7.out.is_).mono ?_); rintro e w8 ⟨rfl, rfl⟩)
    | (go_at_call 9; (with_reducible refine (bytes_ok _ _ _ _ W7.out.is_ 16 alB_length (by decide)).mono ?_); rintro e w8 ⟨A8, c8, rfl, hc8, hrd8, _, _, f8⟩;
       have hcv := run_conv_str Try.underlying22 Try.underlying5 Try.underlying9 hrd8 c8; rw [alB_length] at hcv;
       have R8 := Lib.hid (R7.out.fr f8 (by simp) (by simp)); have S8 := Lib.hid (S7.out.fr f8 (by simp) (by simp)); have W8 := Lib.hid (W7.out.fr0 f8); clear hrd8 f8)
    | (go_at_call 31; (with_reducible refine (end_empty _ _ _ _ R8.out).mono ?_); rintro e w9 ⟨rfl, rfl⟩)
    | (go_at_call 34; (with_reducible refine (rerr_calls _ _ _ _ _ S8.out).mono ?_); rintro e w9 ⟨rfl, rfl⟩))
  go_ret
  exact ⟨by simp, W8.out.fr_⟩
end Go.Proofs.Ytaclinojbifkbaa
