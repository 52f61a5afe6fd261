/- The disk's functions: contracts of the closure that a write hands on. -/
import Derived.Test.YtccmaeifafcocaaMem
import Derived.Test.YtccmaeifafcocaaProg
import Derived.Test.YtccmaeifafcocaaChecked
import Derived.RegionTactic
import Derived.Outline
import Derived.KernelRfl
import Derived.Deep.RegionLaw
import Derived.Deep.DeepCutAuto
namespace Go.Proofs.Ytccmaeifafcocaa
open Go.RowKit

structure DS where
  bs : List UInt8
  dead : Bool
  fuse : Int
  torn : Nat
  writes : Nat

/-- At block p lies a disk of n sectors, its bytes at the head of block g. -/
structure IsDisk (w : World) (p g n cap : Nat) (s : DS) : Prop where
  head : Blk w p 53 #[.slice (some ⟨g, 0, none⟩) n cap, .bool s.dead, .int .i64 s.fuse, .int .i64 (s.torn : Int), .int .i64 (s.writes : Int)]
  rows : ∃ rest, Blk w g 58 (u8s s.bs ++ rest).toArray
  len : s.bs.length = 64 * n
  cap : n ≤ cap
  few : n ≤ 4096
  fuse : -1 ≤ s.fuse ∧ s.fuse ≤ 9223372036854775807
  torn : s.torn ≤ 64

theorem IsDisk.ne {w : World} {p g n cap : Nat} {s : DS} (h : IsDisk w p g n cap s) : g ≠ p := by
  obtain ⟨rest, hr⟩ := h.rows
  exact hr.ne_ h.head (by decide)
theorem IsDisk.fr {w w' : World} {p g n cap : Nat} {s : DS} {S : List Nat} (h : IsDisk w p g n cap s) (hf : Fr S w w') (hp : p ∉ S) (hg : g ∉ S) : IsDisk w' p g n cap s :=
  ⟨h.head.fr hf hp, h.rows.imp fun _ hr => hr.fr hf hg, h.len, h.cap, h.few, h.fuse, h.torn⟩
theorem IsDisk.lt {w : World} {p g n cap : Nat} {s : DS} (h : IsDisk w p g n cap s) : p < w.heap.size ∧ g < w.heap.size := by
  obtain ⟨rest, hr⟩ := h.rows
  exact ⟨h.head.lt, hr.lt⟩

/-- what a write does where the disk is alive and has the sector -/
def DS.write (s : DS) (i : Nat) (b : List UInt8) : DS × Int :=
  if b.length ≠ 64 then (s, 1)
  else if s.fuse = 0 then ({ bs := splice s.bs (i * 64) (b.take s.torn), dead := true, fuse := -1, torn := s.torn, writes := s.writes + 1 }, 30)
  else ({ bs := splice s.bs (i * 64) b, dead := s.dead, fuse := if 0 < s.fuse then s.fuse - 1 else s.fuse, torn := s.torn, writes := s.writes + 1 }, 0)

def WPost (p g n cap : Nat) (r : DS × Int) (w : World) (e : Ending) (w' : World) : Prop :=
  e = .returned (.int .i64 r.2) ∧ IsDisk w' p g n cap r.1 ∧ Fr [p, g] w w'

theorem sizeU8 : (Try.prog.info? 5).map (·.size) = some 1 := by kernel_rfl

/-- What the closure is handed: a pointer to the sector, the boxes of the bytes and of the disk. -/
structure W1Pre (w : World) (p g n cap i : Nat) (s : DS) (q r : Nat) (A : Option Addr) (c : Nat) (l : List UInt8) : Prop where
  disk : IsDisk w p g n cap s
  lt : i < n
  hq : w.cell? ⟨q, 0, none⟩ = some (.slice A l.length c)
  hr : w.cell? ⟨r, 0, none⟩ = some (.pointer (some ⟨p, 0, none⟩))
  hA : Rd w A l
  hAp : ∀ b off, A = some ⟨b, off, none⟩ → b ≠ p
  hqp : q ≠ p
  hrp : r ≠ p
  hrg : r ≠ g
  hcl : l.length ≤ c
  hw : s.writes < 1000000

theorem write1_none {w : World} {p g n cap i : Nat} {s : DS} {q r : Nat} {A : Option Addr} {c : Nat} {l : List UInt8} (hpre : W1Pre w p g n cap i s q r A c l) (h64 : l.length ≠ 64) :
    Calls Try.prog 25 #[.pointer (some ⟨g, i * 64, none⟩), .pointer (some ⟨q, 0, none⟩), .pointer (some ⟨r, 0, none⟩)] w (WPost p g n cap (s, 1) w) := by
  obtain ⟨h, _, hq, _, _, _, _, _, _, _, _⟩ := hpre
  have h64b : ((l.length : Int) != 64) = true := by rw [bne_iff_ne]; omega
  have H := Lib.hid h
  clear h h64
  go_enter Try.func25, Try.ntmps25
  go_wp2
  go_ret
  exact ⟨rfl, H.out, Fr.refl _ _⟩

theorem write1_fuse {w : World} {p g n cap i : Nat} {s : DS} {q r : Nat} {A : Option Addr} {c : Nat} {l : List UInt8} (hpre : W1Pre w p g n cap i s q r A c l) (h64 : l.length = 64) (hf : s.fuse ≠ 0) :
    Calls Try.prog 25 #[.pointer (some ⟨g, i * 64, none⟩), .pointer (some ⟨q, 0, none⟩), .pointer (some ⟨r, 0, none⟩)] w
      (WPost p g n cap ({ bs := splice s.bs (i * 64) l, dead := s.dead, fuse := if 0 < s.fuse then s.fuse - 1 else s.fuse, torn := s.torn, writes := s.writes + 1 }, 0) w) := by
  obtain ⟨h, hi, hq, hr, hA, hAp, hqp, hrp, hrg, hcl, hw⟩ := hpre
  have hpg := h.ne
  have h2 : w.cell? ⟨p, 2, none⟩ = some (.int .i64 s.fuse) := by rw [h.head.cell]; rfl
  have h4 : w.cell? ⟨p, 4, none⟩ = some (.int .i64 (s.writes : Int)) := by rw [h.head.cell]; rfl
  have hz : ∀ j, w.frozen? ⟨p, j, none⟩ = false := h.head.frozen
  have f0 := h.fuse
  have h64b : ((l.length : Int) != 64) = false := by rw [bne_eq_false_iff_eq]; omega
  have hfb : (s.fuse == 0) = false := by simpa using hf
  obtain ⟨rest, hrow⟩ := h.rows
  have HA := Lib.hid ((hA.setCell (p := ⟨p, 4, none⟩) hAp (.int .i64 ((s.writes : Int) + 1))).setCell (p := ⟨p, 2, none⟩) hAp (.int .i64 (s.fuse - 1)))
  have HA2 := Lib.hid (hA.setCell (p := ⟨p, 4, none⟩) hAp (.int .i64 ((s.writes : Int) + 1)))
  have HB := Lib.hid ((hrow.far (p := ⟨p, 4, none⟩) hpg (.int .i64 ((s.writes : Int) + 1))).far (p := ⟨p, 2, none⟩) hpg (.int .i64 (s.fuse - 1)))
  have HB2 := Lib.hid (hrow.far (p := ⟨p, 4, none⟩) hpg (.int .i64 ((s.writes : Int) + 1)))
  have hs := h.len
  have hfit : i * 64 + (u8s l).length ≤ (u8s s.bs ++ rest).length := by simp; omega
  have Hmin := Lib.hid (show (u8s l).length = Nat.min 64 64 by simp [h64])
  have H := Lib.hid h
  have H64 := Lib.hid h64
  rw [h64] at hq
  clear h h64 hs hrow
  by_cases hpos : 0 < s.fuse
  · go_enter Try.func25, Try.ntmps25
    go_wp2
    go_region_law (refine step_copy rfl (.tmp 50) (.tmp 51) 28 28 rfl 5 Try.underlying28 sizeU8 _ _ _ _ _ _ rfl rfl g (i * 64) (u8s s.bs ++ rest) 58 HB.out (u8s l) Hmin.out (fun _ => rfl) HA.out.srcAll hfit (u8s_one _) ?_; intro w1 hb1 hf1 hz1)
    go_wp2
    go_ret
    have h := H.out
    have hb2 : Blk w1 p 53 _ := Blk.fr (w := _) (by exact (h.head.set_ 4 (.int .i64 ((s.writes : Int) + 1))).set_ 2 (.int .i64 (s.fuse - 1))) hf1 (by simp; omega)
    have hf : Fr [p, g] w w1 := ((((Fr.refl [p, g] w).setCell (p := ⟨p, 4, none⟩) (.inl (by simp)) (.int .i64 ((s.writes : Int) + 1))).setCell (p := ⟨p, 2, none⟩) (.inl (by simp)) (.int .i64 (s.fuse - 1))).drew).trans' hf1 (by simp)
    refine ⟨rfl, ⟨by simpa [hpos] using hb2, ⟨rest, ?_⟩, ?_, h.cap, h.few, by simp; omega, h.torn⟩, hf⟩
    · rw [← splice_u8s _ _ _ _ (by have := h.len; have := H64.out; omega)]; exact hb1
    · have := h.len; have := H64.out; rw [length_splice _ _ _ (by omega)]; exact h.len
  · go_enter Try.func25, Try.ntmps25
    go_wp2
    go_region_law (refine step_copy rfl (.tmp 50) (.tmp 51) 28 28 rfl 5 Try.underlying28 sizeU8 _ _ _ _ _ _ rfl rfl g (i * 64) (u8s s.bs ++ rest) 58 HB2.out (u8s l) Hmin.out (fun _ => rfl) HA2.out.srcAll hfit (u8s_one _) ?_; intro w1 hb1 hf1 hz1)
    go_wp2
    go_ret
    have h := H.out
    have hb2 : Blk w1 p 53 _ := Blk.fr (w := _) (by exact (h.head.set_ 4 (.int .i64 ((s.writes : Int) + 1)))) hf1 (by simp; omega)
    have hf : Fr [p, g] w w1 := ((((Fr.refl [p, g] w).setCell (p := ⟨p, 4, none⟩) (.inl (by simp)) (.int .i64 ((s.writes : Int) + 1)))).drew).trans' hf1 (by simp)
    refine ⟨rfl, ⟨by simpa [hpos] using hb2, ⟨rest, ?_⟩, ?_, h.cap, h.few, by simp; omega, h.torn⟩, hf⟩
    · rw [← splice_u8s _ _ _ _ (by have := h.len; have := H64.out; omega)]; exact hb1
    · have := h.len; have := H64.out; rw [length_splice _ _ _ (by omega)]; exact h.len

theorem write1_torn {w : World} {p g n cap i : Nat} {s : DS} {q r : Nat} {A : Option Addr} {c : Nat} {l : List UInt8} (hpre : W1Pre w p g n cap i s q r A c l) (h64 : l.length = 64) (hf : s.fuse = 0) :
    Calls Try.prog 25 #[.pointer (some ⟨g, i * 64, none⟩), .pointer (some ⟨q, 0, none⟩), .pointer (some ⟨r, 0, none⟩)] w
      (WPost p g n cap ({ bs := splice s.bs (i * 64) (l.take s.torn), dead := true, fuse := -1, torn := s.torn, writes := s.writes + 1 }, 30) w) := by
  obtain ⟨h, hi, hq, hr, hA, hAp, hqp, hrp, hrg, hcl, hw⟩ := hpre
  have hpg := h.ne
  have h1 : w.cell? ⟨p, 1, none⟩ = some (.bool s.dead) := by rw [h.head.cell]; rfl
  have h2 : w.cell? ⟨p, 2, none⟩ = some (.int .i64 0) := by rw [h.head.cell, hf]; rfl
  have h3 : w.cell? ⟨p, 3, none⟩ = some (.int .i64 (s.torn : Int)) := by rw [h.head.cell]; rfl
  have h4 : w.cell? ⟨p, 4, none⟩ = some (.int .i64 (s.writes : Int)) := by rw [h.head.cell]; rfl
  have hz : ∀ j, w.frozen? ⟨p, j, none⟩ = false := h.head.frozen
  have h64b : ((l.length : Int) != 64) = false := by rw [bne_eq_false_iff_eq]; omega
  obtain ⟨rest, hrow⟩ := h.rows
  have HA2 := Lib.hid (((hA.take s.torn).setCell (p := ⟨p, 4, none⟩) hAp (.int .i64 ((s.writes : Int) + 1))))
  have HB2 := Lib.hid (hrow.far (p := ⟨p, 4, none⟩) hpg (.int .i64 ((s.writes : Int) + 1)))
  have hs := h.len
  have ht := h.torn
  have hfit : i * 64 + (u8s (l.take s.torn)).length ≤ (u8s s.bs ++ rest).length := by simp; omega
  have Hmin := Lib.hid (show (u8s (l.take s.torn)).length = Nat.min s.torn 64 by simp [h64])
  have H := Lib.hid h
  have H64 := Lib.hid h64
  rw [h64] at hq
  have htc : s.torn ≤ c := by omega
  have hc0 : c ≠ 0 := by omega
  clear h h64 hs hrow hf hcl
  go_enter Try.func25, Try.ntmps25
  go_upto_region 5 with fail
  go_cut [29] (fun _ wc => Blk wc g 58 (splice (u8s s.bs ++ rest) (i * 64) (u8s (l.take s.torn))).toArray ∧ Fr [g] (w.setCell ⟨p, 4, none⟩ (.int .i64 ((s.writes : Int) + 1))) wc)
  case first =>
    go_region_law (refine step_copy rfl (.tmp 22) (.tmp 28) 28 28 rfl 5 Try.underlying28 sizeU8 _ _ _ _ _ _ rfl rfl g (i * 64) (u8s s.bs ++ rest) 58 HB2.out (u8s (l.take s.torn)) Hmin.out (fun _ => rfl) HA2.out.srcAll hfit (u8s_one _) ?_; intro w1 hb1 hf1 hz1)
    all_goals (go_wp2_with fail; go_meet; exact ⟨hb1, ((Fr.refl [g] _).drew).trans hf1⟩)
  case rest =>
    obtain ⟨hb1, hf1⟩ := hcut
    have c1 : wc.cell? ⟨p, 1, none⟩ = some (.bool s.dead) := by rw [hf1.cell (p := ⟨p, 1, none⟩) (by have := H.out.lt; simpa using this.1) (by simp; omega)]; go_simp
    have c2 : wc.cell? ⟨p, 2, none⟩ = some (.int .i64 0) := by rw [hf1.cell (p := ⟨p, 2, none⟩) (by have := H.out.lt; simpa using this.1) (by simp; omega)]; go_simp
    have cr : wc.cell? ⟨r, 0, none⟩ = some (.pointer (some ⟨p, 0, none⟩)) := by rw [hf1.cell (p := ⟨r, 0, none⟩) (by have := block_lt_of_cell hr; simpa using this) (by simp; omega)]; go_simp
    have cz : ∀ j, wc.frozen? ⟨p, j, none⟩ = false := fun j => by rw [hf1.frozen (p := ⟨p, j, none⟩) (by have := H.out.lt; simpa using this.1) (by simp; omega)]; go_simp
    go_wp2
    go_region
    go_wp2
    go_ret
    have h := H.out
    have hb2 : Blk wc p 53 _ := Blk.fr (w := _) (by exact (h.head.set_ 4 (.int .i64 ((s.writes : Int) + 1)))) hf1 (by simp; omega)
    have hb3 := (hb2.set_ 1 (.bool true)).set_ 2 (.int .i64 (-1))
    have hb4 := (hb1.far (p := ⟨p, 1, none⟩) hpg (.bool true)).far (p := ⟨p, 2, none⟩) hpg (.int .i64 (-1))
    have hf2 : Fr [p, g] w wc := ((((Fr.refl [p, g] w).setCell (p := ⟨p, 4, none⟩) (.inl (by simp)) (.int .i64 ((s.writes : Int) + 1))))).trans' hf1 (by simp)
    have hf := ((hf2.setCell (p := ⟨p, 1, none⟩) (.inl (by simp)) (.bool true)).setCell (p := ⟨p, 2, none⟩) (.inl (by simp)) (.int .i64 (-1))).drew
    refine ⟨rfl, ⟨by simpa using hb3.drew, ⟨rest, ?_⟩, ?_, h.cap, h.few, by simp, h.torn⟩, hf⟩
    · rw [← splice_u8s _ _ _ _ (by have := h.len; have := H64.out; simp; omega)]; exact hb4
    · have := h.len; have := H64.out; rw [length_splice _ _ _ (by simp; omega)]; exact h.len

theorem write1_any {w : World} {p g n cap i : Nat} {s : DS} {q r : Nat} {A : Option Addr} {c : Nat} {l : List UInt8} (hpre : W1Pre w p g n cap i s q r A c l) :
    Calls Try.prog 25 #[.pointer (some ⟨g, i * 64, none⟩), .pointer (some ⟨q, 0, none⟩), .pointer (some ⟨r, 0, none⟩)] w (WPost p g n cap (s.write i l) w) := by
  unfold DS.write
  by_cases h64 : l.length = 64
  · rw [if_neg (by simpa using h64)]
    by_cases hf : s.fuse = 0
    · rw [if_pos hf]; exact write1_torn hpre h64 hf
    · rw [if_neg hf]; exact write1_fuse hpre h64 hf
  · rw [if_pos h64]; exact write1_none hpre h64
end Go.Proofs.Ytccmaeifafcocaa
