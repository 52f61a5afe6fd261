/- The texts DkA DkB DkC DkD CkW CkR CkRB CkA CkRef of this seat, one behind another; what each says stands at its head. -/
import Derived.Test.YtmmjihkcofgmmaaGd
import Derived.Test.YtmmjihkcofgmmaaProg
import Derived.Test.YtmmjihkcofgmmaaChecked
import Derived.RegionTactic
import Derived.Outline
import Derived.KernelRfl
import Derived.Deep.RegionLaw
import Derived.Deep.DeepCutAuto
import Derived.Laws.ResultCell
import Derived.Lib.SlBytesConst
import Derived.Lib.SmallJoins
import Derived.Laws.OwnMore

/- The disk's functions: contracts of the closure that a write hands on. -/
namespace Go.Proofs.Ytmmjihkcofgmmaa.Dk
open Go.RowKit

structure DS where
  bs : List UInt8
  dead : Bool
  fuse : Int
  torn : Nat
  writes : Nat

/-- At block p lies a disk of n sectors, its bytes at the head of block g. -/
structure IsDisk (w : World) (p g n cap : Nat) (s : DS) : Prop where
  head : Blk w p 60 #[.slice (some ⟨g, 0, none⟩) n cap, .bool s.dead, .int .i64 s.fuse, .int .i64 (s.torn : Int), .int .i64 (s.writes : Int)]
  rows : ∃ rest, Blk w g 73 (u8s s.bs ++ rest).toArray
  len : s.bs.length = 64 * n
  cap : n ≤ cap
  few : n ≤ 4096
  fuse : -1 ≤ s.fuse ∧ s.fuse ≤ 9223372036854775807
  torn : s.torn ≤ 64

theorem IsDisk.ne {w : World} {p g n cap : Nat} {s : DS} (h : IsDisk w p g n cap s) : g ≠ p := by
  obtain ⟨rest, hr⟩ := h.rows
  exact hr.ne_ h.head (by decide)
theorem IsDisk.fr {w w' : World} {p g n cap : Nat} {s : DS} {S : List Nat} (h : IsDisk w p g n cap s) (hf : Fr S w w') (hp : p ∉ S) (hg : g ∉ S) : IsDisk w' p g n cap s :=
  ⟨h.head.fr hf hp, h.rows.imp fun _ hr => hr.fr hf hg, h.len, h.cap, h.few, h.fuse, h.torn⟩
theorem IsDisk.lt {w : World} {p g n cap : Nat} {s : DS} (h : IsDisk w p g n cap s) : p < w.heap.size ∧ g < w.heap.size := by
  obtain ⟨rest, hr⟩ := h.rows
  exact ⟨h.head.lt, hr.lt⟩

/-- what a write does where the disk is alive and has the sector -/
def DS.write (s : DS) (i : Nat) (b : List UInt8) : DS × Int :=
  if b.length ≠ 64 then (s, 1)
  else if s.fuse = 0 then ({ bs := splice s.bs (i * 64) (b.take s.torn), dead := true, fuse := -1, torn := s.torn, writes := s.writes + 1 }, 30)
  else ({ bs := splice s.bs (i * 64) b, dead := s.dead, fuse := if 0 < s.fuse then s.fuse - 1 else s.fuse, torn := s.torn, writes := s.writes + 1 }, 0)

def WPost (p g n cap : Nat) (r : DS × Int) (w : World) (e : Ending) (w' : World) : Prop :=
  e = .returned (.int .i64 r.2) ∧ IsDisk w' p g n cap r.1 ∧ Fr [p, g] w w'

theorem sizeU8 : (Try.prog.info? 5).map (·.size) = some 1 := by kernel_rfl

/-- What the closure is handed: a pointer to the sector, the boxes of the bytes and of the disk. -/
structure W1Pre (w : World) (p g n cap i : Nat) (s : DS) (q r : Nat) (A : Option Addr) (c : Nat) (l : List UInt8) : Prop where
  disk : IsDisk w p g n cap s
  lt : i < n
  hq : w.cell? ⟨q, 0, none⟩ = some (.slice A l.length c)
  hr : w.cell? ⟨r, 0, none⟩ = some (.pointer (some ⟨p, 0, none⟩))
  hA : Rd w A l
  hAp : ∀ b off, A = some ⟨b, off, none⟩ → b ≠ p
  hqp : q ≠ p
  hrp : r ≠ p
  hrg : r ≠ g
  hcl : l.length ≤ c
  hw : s.writes < 1000000

theorem write1_none {w : World} {p g n cap i : Nat} {s : DS} {q r : Nat} {A : Option Addr} {c : Nat} {l : List UInt8} (hpre : W1Pre w p g n cap i s q r A c l) (h64 : l.length ≠ 64) :
    Calls Try.prog 33 #[.pointer (some ⟨g, i * 64, none⟩), .pointer (some ⟨q, 0, none⟩), .pointer (some ⟨r, 0, none⟩)] w (WPost p g n cap (s, 1) w) := by
  obtain ⟨h, _, hq, _, _, _, _, _, _, _, _⟩ := hpre
  have h64b : ((l.length : Int) != 64) = true := by rw [bne_iff_ne]; omega
  have H := Lib.hid h
  clear h h64
  go_enter Try.func33, Try.ntmps33
  go_wp2
  go_ret
  exact ⟨rfl, H.out, Fr.refl _ _⟩

theorem write1_fuse {w : World} {p g n cap i : Nat} {s : DS} {q r : Nat} {A : Option Addr} {c : Nat} {l : List UInt8} (hpre : W1Pre w p g n cap i s q r A c l) (h64 : l.length = 64) (hf : s.fuse ≠ 0) :
    Calls Try.prog 33 #[.pointer (some ⟨g, i * 64, none⟩), .pointer (some ⟨q, 0, none⟩), .pointer (some ⟨r, 0, none⟩)] w
      (WPost p g n cap ({ bs := splice s.bs (i * 64) l, dead := s.dead, fuse := if 0 < s.fuse then s.fuse - 1 else s.fuse, torn := s.torn, writes := s.writes + 1 }, 0) w) := by
  obtain ⟨h, hi, hq, hr, hA, hAp, hqp, hrp, hrg, hcl, hw⟩ := hpre
  have hpg := h.ne
  have h2 : w.cell? ⟨p, 2, none⟩ = some (.int .i64 s.fuse) := by rw [h.head.cell]; rfl
  have h4 : w.cell? ⟨p, 4, none⟩ = some (.int .i64 (s.writes : Int)) := by rw [h.head.cell]; rfl
  have hz : ∀ j, w.frozen? ⟨p, j, none⟩ = false := h.head.frozen
  have f0 := h.fuse
  have h64b : ((l.length : Int) != 64) = false := by rw [bne_eq_false_iff_eq]; omega
  have hfb : (s.fuse == 0) = false := by simpa using hf
  obtain ⟨rest, hrow⟩ := h.rows
  have HA := Lib.hid ((hA.setCell (p := ⟨p, 4, none⟩) hAp (.int .i64 ((s.writes : Int) + 1))).setCell (p := ⟨p, 2, none⟩) hAp (.int .i64 (s.fuse - 1)))
  have HA2 := Lib.hid (hA.setCell (p := ⟨p, 4, none⟩) hAp (.int .i64 ((s.writes : Int) + 1)))
  have HB := Lib.hid ((hrow.far (p := ⟨p, 4, none⟩) hpg (.int .i64 ((s.writes : Int) + 1))).far (p := ⟨p, 2, none⟩) hpg (.int .i64 (s.fuse - 1)))
  have HB2 := Lib.hid (hrow.far (p := ⟨p, 4, none⟩) hpg (.int .i64 ((s.writes : Int) + 1)))
  have hs := h.len
  have hfit : i * 64 + (u8s l).length ≤ (u8s s.bs ++ rest).length := by simp; omega
  have Hmin := Lib.hid (show (u8s l).length = Nat.min 64 64 by simp [h64])
  have H := Lib.hid h
  have H64 := Lib.hid h64
  rw [h64] at hq
  clear h h64 hs hrow
  by_cases hpos : 0 < s.fuse
  · go_enter Try.func33, Try.ntmps33
    go_wp2
    go_region_law (refine step_copy rfl (.tmp 50) (.tmp 51) 26 26 rfl 5 Try.underlying26 sizeU8 _ _ _ _ _ _ rfl rfl g (i * 64) (u8s s.bs ++ rest) 73 HB.out (u8s l) Hmin.out (fun _ => rfl) HA.out.srcAll hfit (u8s_one _) ?_; intro w1 hb1 hf1 hz1)
    go_wp2
    go_ret
    have h := H.out
    have hb2 : Blk w1 p 60 _ := Blk.fr (w := _) (by exact (h.head.set_ 4 (.int .i64 ((s.writes : Int) + 1))).set_ 2 (.int .i64 (s.fuse - 1))) hf1 (by simp; omega)
    have hf : Fr [p, g] w w1 := ((((Fr.refl [p, g] w).setCell (p := ⟨p, 4, none⟩) (.inl (by simp)) (.int .i64 ((s.writes : Int) + 1))).setCell (p := ⟨p, 2, none⟩) (.inl (by simp)) (.int .i64 (s.fuse - 1))).drew).trans' hf1 (by simp)
    refine ⟨rfl, ⟨by simpa [hpos] using hb2, ⟨rest, ?_⟩, ?_, h.cap, h.few, by simp; omega, h.torn⟩, hf⟩
    · rw [← splice_u8s _ _ _ _ (by have := h.len; have := H64.out; omega)]; exact hb1
    · have := h.len; have := H64.out; rw [length_splice _ _ _ (by omega)]; exact h.len
  · go_enter Try.func33, Try.ntmps33
    go_wp2
    go_region_law (refine step_copy rfl (.tmp 50) (.tmp 51) 26 26 rfl 5 Try.underlying26 sizeU8 _ _ _ _ _ _ rfl rfl g (i * 64) (u8s s.bs ++ rest) 73 HB2.out (u8s l) Hmin.out (fun _ => rfl) HA2.out.srcAll hfit (u8s_one _) ?_; intro w1 hb1 hf1 hz1)
    go_wp2
    go_ret
    have h := H.out
    have hb2 : Blk w1 p 60 _ := Blk.fr (w := _) (by exact (h.head.set_ 4 (.int .i64 ((s.writes : Int) + 1)))) hf1 (by simp; omega)
    have hf : Fr [p, g] w w1 := ((((Fr.refl [p, g] w).setCell (p := ⟨p, 4, none⟩) (.inl (by simp)) (.int .i64 ((s.writes : Int) + 1)))).drew).trans' hf1 (by simp)
    refine ⟨rfl, ⟨by simpa [hpos] using hb2, ⟨rest, ?_⟩, ?_, h.cap, h.few, by simp; omega, h.torn⟩, hf⟩
    · rw [← splice_u8s _ _ _ _ (by have := h.len; have := H64.out; omega)]; exact hb1
    · have := h.len; have := H64.out; rw [length_splice _ _ _ (by omega)]; exact h.len

theorem write1_torn {w : World} {p g n cap i : Nat} {s : DS} {q r : Nat} {A : Option Addr} {c : Nat} {l : List UInt8} (hpre : W1Pre w p g n cap i s q r A c l) (h64 : l.length = 64) (hf : s.fuse = 0) :
    Calls Try.prog 33 #[.pointer (some ⟨g, i * 64, none⟩), .pointer (some ⟨q, 0, none⟩), .pointer (some ⟨r, 0, none⟩)] w
      (WPost p g n cap ({ bs := splice s.bs (i * 64) (l.take s.torn), dead := true, fuse := -1, torn := s.torn, writes := s.writes + 1 }, 30) w) := by
  obtain ⟨h, hi, hq, hr, hA, hAp, hqp, hrp, hrg, hcl, hw⟩ := hpre
  have hpg := h.ne
  have h1 : w.cell? ⟨p, 1, none⟩ = some (.bool s.dead) := by rw [h.head.cell]; rfl
  have h2 : w.cell? ⟨p, 2, none⟩ = some (.int .i64 0) := by rw [h.head.cell, hf]; rfl
  have h3 : w.cell? ⟨p, 3, none⟩ = some (.int .i64 (s.torn : Int)) := by rw [h.head.cell]; rfl
  have h4 : w.cell? ⟨p, 4, none⟩ = some (.int .i64 (s.writes : Int)) := by rw [h.head.cell]; rfl
  have hz : ∀ j, w.frozen? ⟨p, j, none⟩ = false := h.head.frozen
  have h64b : ((l.length : Int) != 64) = false := by rw [bne_eq_false_iff_eq]; omega
  obtain ⟨rest, hrow⟩ := h.rows
  have HA2 := Lib.hid (((hA.take s.torn).setCell (p := ⟨p, 4, none⟩) hAp (.int .i64 ((s.writes : Int) + 1))))
  have HB2 := Lib.hid (hrow.far (p := ⟨p, 4, none⟩) hpg (.int .i64 ((s.writes : Int) + 1)))
  have hs := h.len
  have ht := h.torn
  have hfit : i * 64 + (u8s (l.take s.torn)).length ≤ (u8s s.bs ++ rest).length := by simp; omega
  have Hmin := Lib.hid (show (u8s (l.take s.torn)).length = Nat.min s.torn 64 by simp [h64])
  have H := Lib.hid h
  have H64 := Lib.hid h64
  rw [h64] at hq
  have htc : s.torn ≤ c := by omega
  have hc0 : c ≠ 0 := by omega
  clear h h64 hs hrow hf hcl
  go_enter Try.func33, Try.ntmps33
  go_upto_region 5 with fail
  go_cut [29] (fun _ wc => Blk wc g 73 (splice (u8s s.bs ++ rest) (i * 64) (u8s (l.take s.torn))).toArray ∧ Fr [g] (w.setCell ⟨p, 4, none⟩ (.int .i64 ((s.writes : Int) + 1))) wc)
  case first =>
    go_region_law (refine step_copy rfl (.tmp 22) (.tmp 28) 26 26 rfl 5 Try.underlying26 sizeU8 _ _ _ _ _ _ rfl rfl g (i * 64) (u8s s.bs ++ rest) 73 HB2.out (u8s (l.take s.torn)) Hmin.out (fun _ => rfl) HA2.out.srcAll hfit (u8s_one _) ?_; intro w1 hb1 hf1 hz1)
    all_goals (go_wp2_with fail; go_meet; exact ⟨hb1, ((Fr.refl [g] _).drew).trans hf1⟩)
  case rest =>
    obtain ⟨hb1, hf1⟩ := hcut
    have c1 : wc.cell? ⟨p, 1, none⟩ = some (.bool s.dead) := by rw [hf1.cell (p := ⟨p, 1, none⟩) (by have := H.out.lt; simpa using this.1) (by simp; omega)]; go_simp
    have c2 : wc.cell? ⟨p, 2, none⟩ = some (.int .i64 0) := by rw [hf1.cell (p := ⟨p, 2, none⟩) (by have := H.out.lt; simpa using this.1) (by simp; omega)]; go_simp
    have cr : wc.cell? ⟨r, 0, none⟩ = some (.pointer (some ⟨p, 0, none⟩)) := by rw [hf1.cell (p := ⟨r, 0, none⟩) (by have := block_lt_of_cell hr; simpa using this) (by simp; omega)]; go_simp
    have cz : ∀ j, wc.frozen? ⟨p, j, none⟩ = false := fun j => by rw [hf1.frozen (p := ⟨p, j, none⟩) (by have := H.out.lt; simpa using this.1) (by simp; omega)]; go_simp
    go_wp2
    go_region
    go_wp2
    go_ret
    have h := H.out
    have hb2 : Blk wc p 60 _ := Blk.fr (w := _) (by exact (h.head.set_ 4 (.int .i64 ((s.writes : Int) + 1)))) hf1 (by simp; omega)
    have hb3 := (hb2.set_ 1 (.bool true)).set_ 2 (.int .i64 (-1))
    have hb4 := (hb1.far (p := ⟨p, 1, none⟩) hpg (.bool true)).far (p := ⟨p, 2, none⟩) hpg (.int .i64 (-1))
    have hf2 : Fr [p, g] w wc := ((((Fr.refl [p, g] w).setCell (p := ⟨p, 4, none⟩) (.inl (by simp)) (.int .i64 ((s.writes : Int) + 1))))).trans' hf1 (by simp)
    have hf := ((hf2.setCell (p := ⟨p, 1, none⟩) (.inl (by simp)) (.bool true)).setCell (p := ⟨p, 2, none⟩) (.inl (by simp)) (.int .i64 (-1))).drew
    refine ⟨rfl, ⟨by simpa using hb3.drew, ⟨rest, ?_⟩, ?_, h.cap, h.few, by simp, h.torn⟩, hf⟩
    · rw [← splice_u8s _ _ _ _ (by have := h.len; have := H64.out; simp; omega)]; exact hb4
    · have := h.len; have := H64.out; rw [length_splice _ _ _ (by simp; omega)]; exact h.len

theorem write1_any {w : World} {p g n cap i : Nat} {s : DS} {q r : Nat} {A : Option Addr} {c : Nat} {l : List UInt8} (hpre : W1Pre w p g n cap i s q r A c l) :
    Calls Try.prog 33 #[.pointer (some ⟨g, i * 64, none⟩), .pointer (some ⟨q, 0, none⟩), .pointer (some ⟨r, 0, none⟩)] w (WPost p g n cap (s.write i l) w) := by
  unfold DS.write
  by_cases h64 : l.length = 64
  · rw [if_neg (by simpa using h64)]
    by_cases hf : s.fuse = 0
    · rw [if_pos hf]; exact write1_torn hpre h64 hf
    · rw [if_neg hf]; exact write1_fuse hpre h64 hf
  · rw [if_pos h64]; exact write1_none hpre h64
end Go.Proofs.Ytmmjihkcofgmmaa.Dk

/- The disk's functions: contracts. -/
namespace Go.Proofs.Ytmmjihkcofgmmaa.Dk
open Go.RowKit

/-- what a write does -/
def DS.wr (s : DS) (n : Nat) (i : Int) (b : List UInt8) : DS × Int :=
  if s.dead then (s, 30) else if i < 0 ∨ (n : Int) ≤ i then (s, 9) else s.write i.toNat b

theorem write_any (w : World) (p g n cap : Nat) (s : DS) (h : IsDisk w p g n cap s) (i : Int) (A : Option Addr) (c : Nat) (l : List UInt8)
    (hA : Rd w A l) (hAp : ∀ b off, A = some ⟨b, off, none⟩ → b ≠ p ∧ b < w.heap.size) (hcl : l.length ≤ c) (hw : s.writes < 1000000) :
    Calls Try.prog 13 #[.pointer (some ⟨p, 0, none⟩), .int .i64 i, .slice A l.length c] w (WPost p g n cap (s.wr n i l) w) := by
  have h0 : w.cell? ⟨p, 0, none⟩ = some (.slice (some ⟨g, 0, none⟩) n cap) := by rw [h.head.cell]; rfl
  have h1 : w.cell? ⟨p, 1, none⟩ = some (.bool s.dead) := by rw [h.head.cell]; rfl
  have few := h.few
  have c0 := fun o1 o2 => cell_alloc2 h0 o1 o2
  have hF := ((Fr.refl [p, g] w).alloc (.cells #[.pointer (some ⟨p, 0, none⟩)] 28)).alloc (.cells #[.slice A l.length c] 26)
  have hF0 := ((Fr.refl [] w).alloc (.cells #[.pointer (some ⟨p, 0, none⟩)] 28)).alloc (.cells #[.slice A l.length c] 26)
  have HD := Lib.hid (h.fr hF0 (by simp) (by simp))
  have HF := Lib.hid hF
  clear hF
  unfold DS.wr
  cases hd : s.dead with
  | true =>
    rw [hd] at h1
    have c1 := fun o1 o2 => cell_alloc2 h1 o1 o2
    clear h hd hF0
    go_enter Try.func13, Try.ntmps13
    go_wp2
    go_ret
    exact ⟨rfl, HD.out, HF.out⟩
  | false =>
    rw [hd] at h1
    have c1 := fun o1 o2 => cell_alloc2 h1 o1 o2
    rw [if_neg (by simp)]
    by_cases hi : i < 0 ∨ (n : Int) ≤ i
    · rw [if_pos hi]
      by_cases hi0 : i < 0
      · clear h hd hi hF0
        go_enter Try.func13, Try.ntmps13
        go_wp2
        go_ret
        exact ⟨rfl, HD.out, HF.out⟩
      · have hin : (n : Int) ≤ i := by omega
        clear h hd hi hF0
        go_enter Try.func13, Try.ntmps13
        go_wp2
        go_ret
        exact ⟨rfl, HD.out, HF.out⟩
    · rw [if_neg hi]
      obtain ⟨k, rfl⟩ := Int.eq_ofNat_of_zero_le (show 0 ≤ i by omega)
      have hk : k < n := by omega
      have hlt := h.lt
      have hpre : W1Pre ((w.alloc (.cells #[.pointer (some ⟨p, 0, none⟩)] 28)).alloc (.cells #[.slice A l.length c] 26)) p g n cap k s (w.heap.size + 1) w.heap.size A c l :=
        { disk := HD.out, lt := hk, hq := by simp,
          hr := by simp
          hA := hA.fr hF0 (by simp), hAp := fun b off hb => (hAp b off hb).1, hqp := by omega, hrp := by omega, hrg := by omega, hcl := hcl, hw := hw }
      have HC := Lib.hid (write1_any hpre)
      clear h hd hi hpre hF0
      go_enter Try.func13, Try.ntmps13
      go_wp2_with (first | (go_at_call 33; (with_reducible refine HC.out.mono ?_); rintro e w' ⟨rfl, hI, hf⟩) | go_in)
      go_ret
      exact ⟨by simp, by simpa using hI, HF.out.trans hf⟩

theorem dead_calls (w : World) (p g n cap : Nat) (s : DS) (h : IsDisk w p g n cap s) :
    Calls Try.prog 28 #[.pointer (some ⟨p, 0, none⟩)] w fun e w' => e = .returned (.bool s.dead) ∧ w = w' := by
  have h1 : w.cell? ⟨p, 1, none⟩ = some (.bool s.dead) := by rw [h.head.cell]; rfl
  clear h
  go_enter Try.func28, Try.ntmps28
  go_wp2
  go_ret
  exact ⟨rfl, rfl⟩

theorem writes_calls (w : World) (p g n cap : Nat) (s : DS) (h : IsDisk w p g n cap s) :
    Calls Try.prog 22 #[.pointer (some ⟨p, 0, none⟩)] w fun e w' => e = .returned (.int .i64 (s.writes : Int)) ∧ w = w' := by
  have h1 : w.cell? ⟨p, 4, none⟩ = some (.int .i64 (s.writes : Int)) := by rw [h.head.cell]; rfl
  clear h
  go_enter Try.func22, Try.ntmps22
  go_wp2
  go_ret
  exact ⟨rfl, rfl⟩

theorem len_calls (w : World) (p g n cap : Nat) (s : DS) (h : IsDisk w p g n cap s) :
    Calls Try.prog 26 #[.pointer (some ⟨p, 0, none⟩)] w fun e w' => e = .returned (.int .i64 (n : Int)) ∧ w = w' := by
  have h1 : w.cell? ⟨p, 0, none⟩ = some (.slice (some ⟨g, 0, none⟩) n cap) := by rw [h.head.cell]; rfl
  clear h
  go_enter Try.func26, Try.ntmps26
  go_wp2
  go_ret
  exact ⟨rfl, rfl⟩

def DPost (p g n cap : Nat) (v : Value) (s' : DS) (w : World) (e : Ending) (w' : World) : Prop :=
  e = .returned v ∧ IsDisk w' p g n cap s' ∧ Fr [p, g] w w'

theorem fuse_close {w : World} {p g n cap : Nat} {s : DS} (h : IsDisk w p g n cap s) {k t k' t' : Int} (hk : k ≤ 9223372036854775807) (h1 : k' = max k (-1)) (h2 : t' = min (max t 0) 64) :
    DPost p g n cap (.tuple #[]) { s with fuse := max k (-1), torn := (min (max t 0) 64).toNat } w (.returned (.tuple #[])) ((w.setCell ⟨p, 2, none⟩ (.int .i64 k')).setCell ⟨p, 3, none⟩ (.int .i64 t')) := by
  subst h1; subst h2
  have hb := (h.head.set_ 2 (.int .i64 (max k (-1)))).set_ 3 (.int .i64 (min (max t 0) 64))
  have hf := ((Fr.refl [p, g] w).setCell (p := ⟨p, 2, none⟩) (.inl (by simp)) (.int .i64 (max k (-1)))).setCell (p := ⟨p, 3, none⟩) (.inl (by simp)) (.int .i64 (min (max t 0) 64))
  obtain ⟨rest, hr⟩ := h.rows
  have e : (((min (max t 0) 64).toNat : Nat) : Int) = min (max t 0) 64 := by omega
  refine ⟨rfl, ⟨by simpa [e] using hb, ⟨rest, (hr.far (p := ⟨p, 2, none⟩) h.ne _).far (p := ⟨p, 3, none⟩) h.ne _⟩, h.len, h.cap, h.few, by simp; omega, by simp; omega⟩, hf⟩

theorem fuse_calls (w : World) (p g n cap : Nat) (s : DS) (h : IsDisk w p g n cap s) (k t : Int) (hk : k ≤ 9223372036854775807) :
    Calls Try.prog 24 #[.pointer (some ⟨p, 0, none⟩), .int .i64 k, .int .i64 t] w
      (DPost p g n cap (.tuple #[]) { s with fuse := max k (-1), torn := (min (max t 0) 64).toNat } w) := by
  have h2 : w.cell? ⟨p, 2, none⟩ = some (.int .i64 s.fuse) := by rw [h.head.cell]; rfl
  have h3 : w.cell? ⟨p, 3, none⟩ = some (.int .i64 (s.torn : Int)) := by rw [h.head.cell]; rfl
  have hz : ∀ j, w.frozen? ⟨p, j, none⟩ = false := h.head.frozen
  have H := Lib.hid h
  clear h
  by_cases hk0 : k < -1
  · by_cases ht0 : t < 0
    · go_enter Try.func24, Try.ntmps24
      go_wp2
      go_end0
      exact fuse_close H.out (by omega) (by omega) (by omega)
    · by_cases ht1 : 64 < t
      all_goals
        go_enter Try.func24, Try.ntmps24
        go_wp2
        go_end0
        exact fuse_close H.out (by omega) (by omega) (by omega)
  · by_cases ht0 : t < 0
    · go_enter Try.func24, Try.ntmps24
      go_wp2
      go_end0
      exact fuse_close H.out (by omega) (by omega) (by omega)
    · by_cases ht1 : 64 < t
      all_goals
        go_enter Try.func24, Try.ntmps24
        go_wp2
        go_end0
        exact fuse_close H.out (by omega) (by omega) (by omega)

theorem wake_calls (w : World) (p g n cap : Nat) (s : DS) (h : IsDisk w p g n cap s) :
    Calls Try.prog 29 #[.pointer (some ⟨p, 0, none⟩)] w
      (DPost p g n cap (.tuple #[]) { s with dead := false, fuse := -1 } w) := by
  have h2 : w.cell? ⟨p, 2, none⟩ = some (.int .i64 s.fuse) := by rw [h.head.cell]; rfl
  have h3 : w.cell? ⟨p, 1, none⟩ = some (.bool s.dead) := by rw [h.head.cell]; rfl
  have hz : ∀ j, w.frozen? ⟨p, j, none⟩ = false := h.head.frozen
  have H := Lib.hid h
  clear h
  go_enter Try.func29, Try.ntmps29
  go_wp2
  go_end0
  have h := H.out
  have hb := (h.head.set_ 1 (.bool false)).set_ 2 (.int .i64 (-1))
  have hf := ((Fr.refl [p, g] w).setCell (p := ⟨p, 1, none⟩) (.inl (by simp)) (.bool false)).setCell (p := ⟨p, 2, none⟩) (.inl (by simp)) (.int .i64 (-1))
  obtain ⟨rest, hr⟩ := h.rows
  exact ⟨rfl, ⟨by simpa using hb, ⟨rest, (hr.far (p := ⟨p, 1, none⟩) h.ne _).far (p := ⟨p, 2, none⟩) h.ne _⟩, h.len, h.cap, h.few, by simp, h.torn⟩, hf⟩
end Go.Proofs.Ytmmjihkcofgmmaa.Dk

/- The disk's functions: contracts. -/
namespace Go.Proofs.Ytmmjihkcofgmmaa.Dk
open Go.RowKit

theorem infoU8 : (Try.prog.info? 5).map (fun i => (i.zero, i.size, i.bytes)) = some (some (.int .u8 0), 1, 1) := by kernel_rfl
theorem info58 : (Try.prog.info? 73).map (fun i => (i.zero, i.size, i.bytes)) = some (some (.agg (zs 64).toArray), 64, 64) := by kernel_rfl
theorem size58 : (Try.prog.info? 73).map (·.size) = some 64 := by kernel_rfl
theorem zero58 : (Try.prog.info? 73).map (·.zero) = some (some (.agg (zs 64).toArray)) := by kernel_rfl

end Go.Proofs.Ytmmjihkcofgmmaa.Dk

/- The disk's functions: contracts. -/
namespace Go.Proofs.Ytmmjihkcofgmmaa.Dk
open Go.RowKit

/-- a new disk -/
def DS.new (n : Nat) : DS := { bs := List.replicate (64 * n) 0, dead := false, fuse := -1, torn := 0, writes := 0 }
def NewDisk (w : World) (n : Nat) (e : Ending) (w' : World) : Prop :=
  e = .returned (.tuple #[.pointer (some ⟨w.heap.size + 1, 0, none⟩), .int .i64 0]) ∧ IsDisk w' (w.heap.size + 1) w.heap.size n n (DS.new n) ∧ Fr [] w w'

theorem new_bad (w : World) (i : Int) (h : i < 0 ∨ 4096 < i) :
    Calls Try.prog 12 #[.int .i64 i] w fun e w' => e = .returned (.tuple #[.pointer none, .int .i64 1]) ∧ w = w' := by
  by_cases h0 : i < 0
  · clear h
    go_enter Try.func12, Try.ntmps12
    go_wp2
    go_ret2
    exact ⟨rfl, rfl⟩
  · have h1 : 4096 < i := by omega
    clear h
    go_enter Try.func12, Try.ntmps12
    go_wp2
    go_ret2
    exact ⟨rfl, rfl⟩

theorem new_good (w : World) (n : Nat) (h : n ≤ 4096) :
    Calls Try.prog 12 #[.int .i64 (n : Int)] w (NewDisk w n) := by
  have hmk : ∀ w : World, (Instr.makeSlice 58 (.int .i64 (n : Int)) (.int .i64 (n : Int))).run Try.prog w = .ok (.slice (some ⟨w.heap.size, 0, none⟩) n n) (w.alloc (.cells (zs (n * 64)).toArray 73)) := fun w => by
    have := run_make_n (P := Try.prog) 58 73 (.agg (zs 64).toArray) 64 64 Try.underlying58 info58 n (by omega) (by omega) w
    rw [show (Value.agg (zs 64).toArray).cells = (zs 64).toArray from rfl, madeCells_agg _ _ (by omega)] at this
    exact this
  go_enter Try.func12, Try.ntmps12
  go_wp2
  go_ret2
  have hb := Blk.new w 73 (zs (n * 64)).toArray
  have hb2 := Blk.new (w.alloc (.cells (zs (n * 64)).toArray 73)) 60 #[.slice (some ⟨w.heap.size, 0, none⟩) n n, .bool false, .int .i64 (-1), .int .i64 0, .int .i64 0]
  refine ⟨rfl, ⟨by simpa [DS.new] using hb2, ⟨[], by simpa [DS.new, zs, Nat.mul_comm] using hb.alloc _⟩, by simp [DS.new], Nat.le_refl _, h, by simp [DS.new], by simp [DS.new]⟩, ((Fr.refl _ _).alloc _).alloc _⟩

/-- A row of bytes that the call has made. -/
def OwnBytes (w : World) (l : List UInt8) (e : Ending) (w' : World) : Prop :=
  ∃ A c, e = .returned (.slice A l.length c) ∧ w'.ownsRow w.heap.size 5 1 (.slice A l.length c) l.length (u8s l) ∧ Fr [] w w'
theorem OwnBytes.mk' {w w' : World} {l : List UInt8} {v : Value} {n : Nat} (h : w'.ownsRow w.heap.size 5 1 v n (u8s l)) (hf : Fr [] w w') : OwnBytes w l (.returned v) w' := by
  obtain ⟨A, c, rfl, h'⟩ := own_form h
  exact ⟨A, c, rfl, h', hf⟩

theorem clone_calls (w : World) (A : Option Addr) (c : Nat) (l : List UInt8) (hA : Rd w A l) (hn : l.length ≤ 1000000000) :
    Calls Try.prog 35 #[.slice A l.length c] w (OwnBytes w l) := by
  have heq : ∀ w : World, (binOp .eql 26 (.slice A l.length c) (.slice none 0 0)).run Try.prog w = .ok (.bool A.isNone) w := fun w => Lib.run_eql_slice_nil (P := Try.prog) w 26 5 A l.length c 0 0 Try.underlying26
  have HA := Lib.hid hA
  have HL := Lib.hid hn
  cases A with
  | none =>
    have hl : l = [] := by
      rcases Nat.eq_zero_or_pos l.length with h0 | h0
      · exact List.eq_nil_of_length_eq_zero h0
      · obtain ⟨_, _, hA, _⟩ := hA h0; cases hA
    have HE := Lib.hid hl
    clear hA hn hl
    go_enter Try.func35, Try.ntmps35
    go_wp2
    go_ret
    rw [HE.out]
    exact OwnBytes.mk' (n := 0) (World.ownsRow_nil _ _ _ _) (Fr.refl _ _)
  | some ad =>
    have HS := Lib.hid ((hA.fr ((Fr.refl [] w).alloc (.cells #[] 5)) (by simp)).srcAll)
    have HO := Lib.hid (World.ownsRow_made (base := w.heap.size) (e := 5) (size := 1) w #[] 0 (Nat.le_refl _) (by decide) (by simp))
    have h63 : 0 + l.length ≤ maxLen := by unfold maxLen; omega
    have hby : (0 + l.length) * 1 ≤ 140737488355328 := by omega
    have hlen : (u8s l).length = l.length * 1 := by simp
    clear hA hn
    go_enter Try.func35, Try.ntmps35
    go_wp2_with (at_builtin; refine wpList_append rfl (.tmp 5) (.tmp 6) 26 rfl w.heap.size 5 (.int .u8 0) 1 1 Try.underlying26 infoU8 rfl (by decide) (.slice (some ⟨w.heap.size, 0, none⟩) 0 0) 0 [] rfl HO.out _ _ _ (u8s l) rfl hlen HS.out (u8s_one _) h63 hby (by simp) ?_; intro v1 w1 ho1 hw1 hg1 hb1)
    go_ret
    exact OwnBytes.mk' (by simpa using ho1) (((Fr.refl [] w).alloc _).thenBelow hw1)

theorem clone_n (w : World) (A : Option Addr) (m c : Nat) (l : List UInt8) (hm : l.length = m) (hA : Rd w A l) (hn : m ≤ 1000000000) :
    Calls Try.prog 35 #[.slice A m c] w (OwnBytes w l) := by
  subst hm
  exact clone_calls w A c l hA hn

/-- the disk's bytes, one sector after the other -/
theorem all_calls (w : World) (p g n cap : Nat) (s : DS) (h : IsDisk w p g n cap s) :
    Calls Try.prog 27 #[.pointer (some ⟨p, 0, none⟩)] w (OwnBytes w s.bs) := by
  have h0 : w.cell? ⟨p, 0, none⟩ = some (.slice (some ⟨g, 0, none⟩) n cap) := by rw [h.head.cell]; rfl
  obtain ⟨rest, hr⟩ := h.rows
  have hl := h.len
  have few := h.few
  have HR := Lib.hid hr
  have HL := Lib.hid hl
  clear h hr hl
  go_enter Try.func27, Try.ntmps27
  go_wp2
  go_loopg [3, 11] n (fun gg v i wr => ∃ k : Nat, k ≤ n ∧ gg = n - k ∧ i = .int .i64 k ∧ wr.ownsRow w.heap.size 5 1 v (64 * k) (u8s (s.bs.take (64 * k))) ∧ Fr [] w wr)
  case atStart => exact ⟨0, by omega, by omega, rfl, World.ownsRow_nil _ _ _ _, Fr.refl _ _⟩
  case round =>
    obtain ⟨k, hk, rfl, rfl, ho, hf⟩ := hrel
    by_cases hlt : k < n
    · obtain ⟨sec, hsec⟩ : ∃ sec, sec = (s.bs.drop (64 * k)).take 64 := ⟨_, rfl⟩
      have hsl : sec.length = 64 := by rw [hsec]; have := HL.out; simp; omega
      have hbg : Blk wr g 73 (u8s s.bs ++ rest).toArray := HR.out.fr hf (by simp)
      have HC := Lib.hid (show ∀ j v, (u8s sec)[j]? = some v → wr.cell? ⟨g, k * 64 + j, none⟩ = some v from fun j v hv => by
        rw [hbg.cell]
        have hj : j < 64 := by have := (List.getElem?_eq_some_iff.1 hv).1; simp [hsl] at this; exact this
        rw [u8s_get, hsec, List.getElem?_take, if_pos hj, List.getElem?_drop] at hv
        have hlen := HL.out
        rw [List.getElem?_toArray, List.getElem?_append_left (by simp; omega), u8s_get, Nat.mul_comm k 64]
        exact hv)
      have HI := Lib.hid (show (Try.prog.info? 73).map (·.size) = some (u8s sec).length by rw [size58]; simp [hsl])
      have HB := Lib.hid (Blk.new wr 73 (zs 64).toArray)
      have HF2 := Lib.hid (show 0 + (u8s sec).length ≤ (zs 64).length by rw [zs_length]; simp [hsl])
      have hW := (Fr.refl ([] : List Nat) wr).alloc (.cells (zs 64).toArray 73)
      have hW2 : Fr [] wr ((wr.alloc (.cells (zs 64).toArray 73)).setRow wr.heap.size (splice (zs 64) 0 (u8s sec)).toArray) := hW.setRow (.inr (Nat.le_refl _)) _
      have hbx : Blk ((wr.alloc (.cells (zs 64).toArray 73)).setRow wr.heap.size (splice (zs 64) 0 (u8s sec)).toArray) wr.heap.size 73 (u8s sec).toArray := by
        have := HB.out.setRow_ (splice (zs 64) 0 (u8s sec)).toArray
        have e : splice (zs 64) 0 (u8s sec) = u8s sec := by
          unfold splice
          rw [List.drop_eq_nil_of_le (by rw [zs_length]; simp [hsl])]
          simp
        rwa [e] at this ⊢
      have HS := Lib.hid (show 0 < (u8s sec).length → ∃ ad, some (⟨wr.heap.size, 0, none⟩ : Addr) = some ad ∧ ∀ j v, (u8s sec)[j]? = some v → ((wr.alloc (.cells (zs 64).toArray 73)).setRow wr.heap.size (splice (zs 64) 0 (u8s sec)).toArray).cell? (ad.add j) = some v from
        fun _ => ⟨_, rfl, fun j v hv => by rw [addr_add0, hbx.cell, Nat.zero_add]; simpa using hv⟩)
      have HO := Lib.hid (own_fr ho hW2 (by simp))
      have HF := Lib.hid hf
      have hsz : w.heap.size ≤ ((wr.alloc (.cells (zs 64).toArray 73)).setRow wr.heap.size (splice (zs 64) 0 (u8s sec)).toArray).heap.size := by have := hf.size; simp [World.setRow]; omega
      have HW2 := Lib.hid hW2
      have HSEC := Lib.hid hsec
      have h63 : 64 * k + 64 ≤ maxLen := by unfold maxLen; omega
      have hby : (64 * k + 64) * 1 ≤ 140737488355328 := by omega
      have hlen : (u8s sec).length = 64 * 1 := by simp [hsl]
      clear ho hf hbg hsl hW hW2 hbx hsec
      go_wp2_with (first
        | (refine wpList_load_agg rfl 73 (.tmp 13) rfl g (k * 64) rfl (u8s sec) _ HC.out Try.underlying73 rfl HI.out ?_)
        | (refine wpList_alloc_agg rfl 73 rfl (zs 64).toArray zero58 ?_)
        | (refine wpList_store_agg rfl 73 (.tmp 5) (.tmp 14) rfl wr.heap.size 0 rfl (u8s sec) rfl (zs 64) 73 HB.out HF2.out (u8s_one _) HI.out ?_)
        | (at_builtin; refine wpList_append rfl (.tmp 15) (.tmp 16) 26 rfl w.heap.size 5 (.int .u8 0) 1 1 Try.underlying26 infoU8 rfl (by decide) u3 _ _ rfl HO.out _ _ _ (u8s sec) rfl hlen HS.out (u8s_one _) h63 hby hsz ?_; intro v1 w1 ho1 hw1 hg1 hb1))
      go_roundg (n - (k + 1))
      case measure => omega
      case rel =>
        refine ⟨k + 1, by omega, rfl, by go_num, ?_, ((HF.out.trans HW2.out)).thenBelow hw1⟩
        rw [HSEC.out] at ho1
        rw [show 64 * (k + 1) = 64 * k + 64 by omega, List.take_add, u8s_append]
        exact ho1
    · have : k = n := by omega
      subst this
      go_wp2
      go_ret
      rw [← HL.out, List.take_length] at ho
      exact OwnBytes.mk' ho hf

/-- what a read tells -/
def DS.rd (s : DS) (n : Nat) (i : Int) : List UInt8 × Int :=
  if s.dead then ([], 30) else if i < 0 ∨ (n : Int) ≤ i then ([], 9) else ((s.bs.drop (i.toNat * 64)).take 64, 0)
def ReadPost (w : World) (r : List UInt8 × Int) (e : Ending) (w' : World) : Prop :=
  ∃ A c, e = .returned (.tuple #[.slice A r.1.length c, .int .i64 r.2]) ∧ w'.ownsRow w.heap.size 5 1 (.slice A r.1.length c) r.1.length (u8s r.1) ∧ Fr [] w w'

theorem read_calls (w : World) (p g n cap : Nat) (s : DS) (h : IsDisk w p g n cap s) (i : Int) :
    Calls Try.prog 44 #[.pointer (some ⟨p, 0, none⟩), .int .i64 i] w (ReadPost w (s.rd n i)) := by
  have h0 : w.cell? ⟨p, 0, none⟩ = some (.slice (some ⟨g, 0, none⟩) n cap) := by rw [h.head.cell]; rfl
  have h1 : w.cell? ⟨p, 1, none⟩ = some (.bool s.dead) := by rw [h.head.cell]; rfl
  have few := h.few
  have c0 := fun o1 => cell_alloc h0 o1
  unfold DS.rd
  cases hd : s.dead with
  | true =>
    rw [hd] at h1
    have c1 := fun o1 => cell_alloc h1 o1
    clear h hd
    go_enter Try.func44, Try.ntmps44
    go_wp2
    go_ret2
    exact ⟨none, 0, rfl, World.ownsRow_nil _ _ _ _, (Fr.refl _ _).alloc _⟩
  | false =>
    rw [hd] at h1
    have c1 := fun o1 => cell_alloc h1 o1
    rw [if_neg (by simp)]
    by_cases hi : i < 0 ∨ (n : Int) ≤ i
    · rw [if_pos hi]
      by_cases hi0 : i < 0
      · clear h hd hi
        go_enter Try.func44, Try.ntmps44
        go_wp2
        go_ret2
        exact ⟨none, 0, rfl, World.ownsRow_nil _ _ _ _, (Fr.refl _ _).alloc _⟩
      · have hin : (n : Int) ≤ i := by omega
        clear h hd hi
        go_enter Try.func44, Try.ntmps44
        go_wp2
        go_ret2
        exact ⟨none, 0, rfl, World.ownsRow_nil _ _ _ _, (Fr.refl _ _).alloc _⟩
    · rw [if_neg hi]
      obtain ⟨k, rfl⟩ := Int.eq_ofNat_of_zero_le (show 0 ≤ i by omega)
      have hk : k < n := by omega
      obtain ⟨rest, hr⟩ := h.rows
      have hl := h.len
      obtain ⟨sec, hsec⟩ : ∃ sec, sec = (s.bs.drop (k * 64)).take 64 := ⟨_, rfl⟩
      have hsl : sec.length = 64 := by rw [hsec]; simp; omega
      have hA : Rd w (some ⟨g, k * 64, none⟩) sec := fun _ => ⟨g, k * 64, rfl, fun j x hx => by
        rw [hr.cell]
        have hj : j < 64 := by have := (List.getElem?_eq_some_iff.1 hx).1; omega
        rw [hsec, List.getElem?_take, if_pos hj, List.getElem?_drop] at hx
        rw [List.getElem?_toArray, List.getElem?_append_left (by simp; omega), u8s_get, hx]
        rfl⟩
      have hA' := hA.fr ((Fr.refl [] w).alloc (.cells #[.slice none 0 0] 26)) (by simp)
      have HC := Lib.hid (clone_n (w.alloc (.cells #[.slice none 0 0] 26)) (some ⟨g, k * 64, none⟩) 64 64 sec hsl hA' (by omega))
      have HSEC := Lib.hid hsec
      have hbx := (Blk.new w 26 #[.slice none 0 0])
      have HBX := Lib.hid hbx
      have HW := Lib.hid ((Fr.refl [] w).alloc (.cells #[.slice none 0 0] 26))
      clear h hd hi hr hl hsl hA hA' hsec hbx
      go_enter Try.func44, Try.ntmps44
      go_wp2_with (first | (go_at_call 35; (with_reducible refine HC.out.mono ?_); rintro e w1 ⟨A1, k1, rfl, ho1, hf1⟩; have HO1 := Lib.hid ho1; have HF1 := Lib.hid hf1; have hb1 := HBX.out.fr hf1 (by simp); have d1 := hb1.cell 0; have d2 := hb1.frozen 0; clear ho1 hf1 hb1; simp at d1) | go_in)
      go_ret2
      rw [Int.toNat_natCast, ← HSEC.out]
      have ho1 := HO1.out
      have hs1 : Fr [w.heap.size] w1 (w1.setCell ⟨w.heap.size, 0, none⟩ (.slice A1 sec.length k1)) := (Fr.refl _ _).setCell (.inl (by simp)) _
      have ho2 := own_mono (base' := w.heap.size) (own_fr ho1 hs1 (by intro b hb; have := (ho1.lt b hb).1; simp at this; simp; omega)) (by simp)
      exact ⟨A1, k1, rfl, ho2, (HW.out.trans HF1.out).setCell (.inr (Nat.le_refl _)) _⟩
end Go.Proofs.Ytmmjihkcofgmmaa.Dk

/- codec.Writer: contracts. -/
namespace Go.Proofs.Ytmmjihkcofgmmaa
open Go.RowKit

theorem infoU8 : (Try.prog.info? 5).map (fun i => (i.zero, i.size, i.bytes)) = some (some (.int .u8 0), 1, 1) := by kernel_rfl

/-- At block p lies a writer; its bytes lie in one of the blocks ob. -/
structure IsW (w : World) (p : Nat) (ob : List Nat) (bs : List UInt8) (e : Int) : Prop where
  lies : ∃ v, Blk w p 102 #[v, .int .i64 e] ∧ w.ownsRow 0 5 1 v bs.length (u8s bs) ∧ ∀ k, v.ownBlock = some k → k ∈ ob
  out : p ∉ ob

theorem IsW.fr {w w' : World} {p : Nat} {ob : List Nat} {bs : List UInt8} {e : Int} {S : List Nat} (h : IsW w p ob bs e) (hf : Fr S w w') (hp : p ∉ S) (ho : ∀ k ∈ ob, k ∉ S) : IsW w' p ob bs e := by
  obtain ⟨⟨v, hb, hown, hk⟩, hout⟩ := h
  exact ⟨⟨v, hb.fr hf hp, own_fr hown hf (fun k hk' => ho k (hk k hk')), hk⟩, hout⟩
theorem IsW.lt {w : World} {p : Nat} {ob : List Nat} {bs : List UInt8} {e : Int} (h : IsW w p ob bs e) : p < w.heap.size := by
  obtain ⟨⟨v, hb, _⟩, _⟩ := h
  exact hb.lt

/-- What an operation of a writer leaves. -/
def WOut (w : World) (p : Nat) (ob : List Nat) (bs : List UInt8) (er : Int) (e : Ending) (w' : World) : Prop :=
  e = .returned (.tuple #[]) ∧ ∃ ob', IsW w' p ob' bs er ∧ (∀ k ∈ ob', k ∈ ob ∨ w.heap.size ≤ k) ∧ Fr (p :: ob) w w'

theorem put_no (w : World) (p : Nat) (ob : List Nat) (bs : List UInt8) (er : Int) (h : IsW w p ob bs er) (v : Value) :
    Calls Try.prog 69 #[.pointer (some ⟨p, 0, none⟩), .bool false, v] w (WOut w p ob bs 10) := by
  obtain ⟨⟨x, hb, hown, hk⟩, hout⟩ := h
  have h1 : w.cell? ⟨p, 1, none⟩ = some (.int .i64 er) := by rw [hb.cell]; rfl
  have hz := hb.frozen
  have HB := Lib.hid hb; have HO := Lib.hid hown; have HK := Lib.hid hk; have HOUT := Lib.hid hout
  clear hb hown hk hout
  go_enter Try.func69, Try.ntmps69
  go_wp2
  refine bodyPost_ret (results_none rfl _ _ _) rfl ?_
  have hb2 := HB.out.set_ 1 (.int .i64 10)
  have hs : Fr [p] w (w.setCell ⟨p, 1, none⟩ (.int .i64 10)) := (Fr.refl _ _).setCell (.inl (by simp)) _
  refine ⟨rfl, ob, ⟨⟨x, by simpa using hb2, own_fr HO.out hs (fun k hk => ?_), HK.out⟩, HOUT.out⟩, fun k hk => .inl hk, (Fr.refl _ _).setCell (.inl (by simp)) _⟩
  have := own_blk_ne HO.out HB.out (by decide)
  intro hm
  simp at hm
  subst hm
  exact this hk

theorem put_yes (w : World) (p : Nat) (ob : List Nat) (bs : List UInt8) (er : Int) (h : IsW w p ob bs er) (A : Option Addr) (m c : Nat) (l : List UInt8) (hm : l.length = m) (hA : Rd w A l) (hbd : bs.length + m ≤ 1000000000) :
    Calls Try.prog 69 #[.pointer (some ⟨p, 0, none⟩), .bool true, .slice A m c] w (WOut w p ob (bs ++ l) er) := by
  obtain ⟨⟨x, hb, hown, hk⟩, hout⟩ := h
  have h0 : w.cell? ⟨p, 0, none⟩ = some x := by rw [hb.cell]; rfl
  have hz := hb.frozen
  have hne := own_blk_ne hown hb (by decide)
  have HNE := Lib.hid hne
  have HB := Lib.hid hb; have HO := Lib.hid hown; have HK := Lib.hid hk; have HOUT := Lib.hid hout
  have HS := Lib.hid hA.srcAll
  have h63 : bs.length + m ≤ maxLen := by unfold maxLen; omega
  have hby : (bs.length + m) * 1 ≤ 140737488355328 := by omega
  have HLEN := Lib.hid (show (u8s l).length = m * 1 by simp [hm])
  have HM := Lib.hid hm
  clear hb hown hk hout hne hA hm
  go_enter Try.func69, Try.ntmps69
  go_wp2_with (at_builtin; refine wpList_append rfl (.tmp 15) (.tmp 16) 26 rfl 0 5 (.int .u8 0) 1 1 Try.underlying26 infoU8 rfl (by decide) x bs.length (u8s bs) rfl HO.out _ _ _ (u8s l) rfl HLEN.out HS.out (u8s_one _) h63 hby (Nat.zero_le _) ?_; intro v1 w1 ho1 hw1 hg1 hb1; rw [← u8s_append] at ho1; obtain ⟨A1, c1, rfl, ho2⟩ := own_form ho1; have HO2 := Lib.hid ho2; have HG1 := Lib.hid hg1; have HB1 := Lib.hid hb1; have hbk := HB.out.grown hg1 (fun e => HNE.out e.symm); have HBK := Lib.hid hbk; have d0 := hbk.cell 0; have dz := hbk.frozen 0; simp only [List.getElem?_toArray, List.getElem?_cons_zero] at d0; clear ho1 ho2 hw1 hg1 hb1 hbk)
  go_end0
  rw [← List.length_append]
  have hb3 := HBK.out.set_ 0 (.slice A1 (bs ++ l).length c1)
  have hs : Fr [p] w1 (w1.setCell ⟨p, 0, none⟩ (.slice A1 (bs ++ l).length c1)) := (Fr.refl _ _).setCell (.inl (by simp)) _
  have hne := own_blk_ne HO2.out HBK.out (by decide)
  have hold := HK.out
  refine ⟨rfl, ((Value.slice A1 (bs ++ l).length c1).ownBlock).toList, ⟨⟨_, by simpa using hb3, own_fr HO2.out hs (fun k hk => ?_), fun k hk => by simp only [Option.mem_toList, Option.mem_def]; exact hk⟩, ?_⟩, fun k hk => ?_, ?_⟩
  · intro hm
    simp only [List.mem_singleton] at hm
    subst hm
    exact hne hk
  · intro hm
    simp only [Option.mem_toList, Option.mem_def] at hm
    exact hne hm
  · simp only [Option.mem_toList, Option.mem_def] at hk
    rcases HB1.out with h | h
    · exact .inl (hold k (by rw [← h]; exact hk))
    · rw [h] at hk; cases hk; exact .inr (Nat.le_refl _)
  · have f1 : Fr ob w w1 := grown_fr HG1.out hold
    exact ((f1.mono (fun x hx => .inl (by simp [hx]))).setCell (.inl (by simp)) _)

/-- two in a row -/
theorem WOut.then {w w1 w2 : World} {p : Nat} {ob ob1 : List Nat} (h1 : ∀ k ∈ ob1, k ∈ ob ∨ w.heap.size ≤ k) (f1 : Fr (p :: ob) w w1) {bs : List UInt8} {er : Int} {e : Ending} (h2 : WOut w1 p ob1 bs er e w2) : WOut w p ob bs er e w2 := by
  obtain ⟨rfl, ob2, hi, hk, f2⟩ := h2
  refine ⟨rfl, ob2, hi, fun k hk2 => ?_, f1.trans' f2 (fun x hx => ?_)⟩
  · rcases hk k hk2 with h | h
    · exact h1 k h
    · exact .inr (Nat.le_trans f1.size h)
  · rcases List.mem_cons.1 hx with rfl | hx
    · exact .inl (by simp)
    · rcases h1 x hx with h | h
      · exact .inl (by simp [h])
      · exact .inr h

theorem byte_calls (w : World) (p : Nat) (ob : List Nat) (bs : List UInt8) (er : Int) (h : IsW w p ob bs er) (x : Int) (y : UInt8) (hxy : x = (y.toNat : Int)) (hbd : bs.length + 1 ≤ 1000000000) :
    Calls Try.prog 60 #[.pointer (some ⟨p, 0, none⟩), .int .u8 x] w (WOut w p ob (bs ++ [y]) er) := by
  subst hxy
  have hf := (Fr.refl [] w).alloc (.cells #[u8v y] 5)
  have hb := Blk.new w 5 #[u8v y]
  have hrd : Rd (w.alloc (.cells #[u8v y] 5)) (some ⟨w.heap.size, 0, none⟩) [y] := fun _ => ⟨_, 0, rfl, fun j z hz => by
    rw [hb.cell]
    cases j with
    | zero => simp at hz; subst hz; rfl
    | succ j => simp at hz⟩
  have HC := Lib.hid (put_yes (w.alloc (.cells #[u8v y] 5)) p ob bs er (h.fr hf (by simp) (by simp)) (some ⟨w.heap.size, 0, none⟩) 1 1 [y] rfl hrd hbd)
  have HF := Lib.hid (hf.mono (T := p :: ob) (by simp))
  clear h hf hb hrd
  go_enter Try.func60, Try.ntmps60
  go_wp2_with (go_at_call 69; (with_reducible refine HC.out.mono ?_); rintro e w1 ⟨rfl, hh⟩; have HH := Lib.hid hh; clear hh)
  go_end0
  obtain ⟨ob', hi, hk, f1⟩ := HH.out
  exact ⟨rfl, ob', hi, fun k hk' => (hk k hk').imp id (fun h => by simp at h; omega), HF.out.trans f1⟩

/-- a count's bytes, a number's -/
def countB (n : Nat) : List UInt8 := [UInt8.ofNat (n / 65536), UInt8.ofNat (n / 256), UInt8.ofNat n]
def nu (n : Int) : Nat := (n + 9223372036854775808).toNat
def numB (n : Int) : List UInt8 := (List.range 8).map fun k => UInt8.ofNat (nu n / 256 ^ (7 - k))

theorem count_no (w : World) (p : Nat) (ob : List Nat) (bs : List UInt8) (er : Int) (h : IsW w p ob bs er) (n : Int) (hn : n < 0 ∨ 1048576 < n) (hn1 : -9223372036854775808 ≤ n) (hn2 : n ≤ 9223372036854775807) :
    Calls Try.prog 61 #[.pointer (some ⟨p, 0, none⟩), .int .i64 n] w (WOut w p ob bs 10) := by
  have H := Lib.hid h
  have HC : Hid (∀ w', Fr [] w w' → ∀ v b, b = false → Calls Try.prog 69 #[.pointer (some ⟨p, 0, none⟩), .bool b, v] w' (WOut w' p ob bs 10)) := Lib.hid (fun w' hf v b hb => by subst hb; exact put_no w' p ob bs er (h.fr hf (by simp) (by simp)) v)
  clear h
  by_cases h0 : n < 0
  · clear hn
    go_enter Try.func61, Try.ntmps61
    go_wp2_with fail
    refine (HC.out _ ((Fr.refl [] w).alloc _) _ _ (by simp; try omega)).mono ?_
    rintro e w1 ⟨rfl, hh⟩
    have HH := Lib.hid hh; clear hh
    go_wp2_with fail
    go_end0
    obtain ⟨ob', hi, hk, f1⟩ := HH.out
    exact ⟨rfl, ob', hi, fun k hk' => (hk k hk').imp id (fun h => by simp at h; omega), (((Fr.refl [] w).alloc _).mono (T := p :: ob) (by simp)).trans f1⟩
  · have h1 : 1048576 < n := by omega
    clear hn
    go_enter Try.func61, Try.ntmps61
    go_wp2_with fail
    refine (HC.out _ ((Fr.refl [] w).alloc _) _ _ (by simp; try omega)).mono ?_
    rintro e w1 ⟨rfl, hh⟩
    have HH := Lib.hid hh; clear hh
    go_wp2_with fail
    go_end0
    obtain ⟨ob', hi, hk, f1⟩ := HH.out
    exact ⟨rfl, ob', hi, fun k hk' => (hk k hk').imp id (fun h => by simp at h; omega), (((Fr.refl [] w).alloc _).mono (T := p :: ob) (by simp)).trans f1⟩

theorem rd_cells {w : World} {g : Nat} {l : List UInt8} {t : TypeId} (h : Blk w g t (u8s l).toArray) : Rd w (some ⟨g, 0, none⟩) l := fun _ => ⟨g, 0, rfl, fun j x hx => by rw [h.cell, Nat.zero_add]; simp [u8s, hx]⟩

theorem count_yes (w : World) (p : Nat) (ob : List Nat) (bs : List UInt8) (er : Int) (h : IsW w p ob bs er) (n : Nat) (hn : n ≤ 1048576) (hbd : bs.length + 3 ≤ 1000000000) :
    Calls Try.prog 61 #[.pointer (some ⟨p, 0, none⟩), .int .i64 (n : Int)] w (WOut w p ob (bs ++ countB n) er) := by
  have HC : Hid (∀ w' g, Fr [] w w' → Blk w' g 5 (u8s (countB n)).toArray → ∀ b, b = true → Calls Try.prog 69 #[.pointer (some ⟨p, 0, none⟩), .bool b, .slice (some ⟨g, 0, none⟩) 3 3] w' (WOut w' p ob (bs ++ countB n) er)) :=
    Lib.hid (fun w' g hf hb b hbt => by subst hbt; exact put_yes w' p ob bs er (h.fr hf (by simp) (by simp)) (some ⟨g, 0, none⟩) 3 3 (countB n) rfl (rd_cells hb) hbd)
  clear h
  go_enter Try.func61, Try.ntmps61
  go_wp2_with fail
  refine (HC.out _ w.heap.size ((Fr.refl [] w).alloc _) ?_ _ (by simp; omega)).mono ?_
  · have e : (u8s (countB n)).toArray = #[.int .u8 ((n : Int) / 65536), .int .u8 ((n : Int) / 256 % 256), .int .u8 ((n : Int) % 256)] := by
      simp [u8s, countB, u8v, UInt8.toNat_ofNat']
      omega
    rw [e]
    exact Blk.new w _ _
  rintro e w1 ⟨rfl, hh⟩
  have HH := Lib.hid hh; clear hh
  go_wp2_with fail
  go_end0
  obtain ⟨ob', hi, hk, f1⟩ := HH.out
  exact ⟨rfl, ob', hi, fun k hk' => (hk k hk').imp id (fun h => by simp at h; omega), (((Fr.refl [] w).alloc _).mono (T := p :: ob) (by simp)).trans f1⟩

theorem xor63 (y : Nat) (h : y < 2^63) : y ^^^ 2^63 = 2^63 + y := by
  apply Nat.eq_of_testBit_eq
  intro i
  rw [Nat.testBit_xor, Nat.testBit_two_pow]
  rcases Nat.lt_trichotomy i 63 with h1 | h1 | h1
  · rw [Nat.testBit_two_pow_add_gt h1]
    simp [show ¬ 63 = i by omega]
  · subst h1; rw [Nat.testBit_two_pow_add_eq]; simp
  · have e1 : y.testBit i = false := Nat.testBit_lt_two_pow (Nat.lt_of_lt_of_le h (Nat.pow_le_pow_right (by omega) (by omega)))
    have e2 : (2^63 + y).testBit i = false := Nat.testBit_lt_two_pow (Nat.lt_of_lt_of_le (show 2^63 + y < 2^64 by omega) (Nat.pow_le_pow_right (by omega) (by omega)))
    rw [e1, e2]
    simp [show ¬ 63 = i by omega]
theorem xor63' (x : Nat) (h : x < 18446744073709551616) : x ^^^ 9223372036854775808 = (x + 9223372036854775808) % 18446744073709551616 := by
  by_cases h1 : x < 2^63
  · rw [show (9223372036854775808 : Nat) = 2^63 from rfl, xor63 x h1]; omega
  · obtain ⟨y, rfl⟩ : ∃ y, x = 2^63 + y := ⟨x - 2^63, by omega⟩
    rw [← xor63 y (by omega), show (9223372036854775808 : Nat) = 2^63 from rfl, Nat.xor_assoc, Nat.xor_self, Nat.xor_zero]
    rw [xor63 y (by omega)]; omega

theorem wrap_flip (n : Int) (h1 : -9223372036854775808 ≤ n) (h2 : n ≤ 9223372036854775807) : bits .xor .u64 (IntKind.u64.wrap n) 9223372036854775808 = (nu n : Int) := by
  rw [IntKind.wrap_u64]
  have h0 : 0 ≤ n % 18446744073709551616 := Int.emod_nonneg _ (by omega)
  rw [u64_xor _ _ h0 (by omega) (by omega) (by omega)]
  have e : (n % 18446744073709551616).toNat ^^^ (9223372036854775808 : Int).toNat = nu n := by
    rw [show (9223372036854775808 : Int).toNat = 9223372036854775808 from rfl, xor63' _ (by omega)]
    unfold nu
    omega
  rw [e]

theorem num_byte (u k : Nat) (hk : k < 8) : (u : Int) / 2 ^ (56 - 8 * k) % 256 = ((UInt8.ofNat (u / 256 ^ (7 - k))).toNat : Int) := by
  have e : (2 : Nat) ^ (56 - 8 * k) = 256 ^ (7 - k) := by
    rw [show (256 : Nat) = 2 ^ 8 from rfl, ← Nat.pow_mul]; congr 1; omega
  rw [UInt8.toNat_ofNat']
  have e2 : ((2 : Int) ^ (56 - 8 * k)) = ((256 ^ (7 - k) : Nat) : Int) := by rw [← e]; simp
  rw [e2]
  omega

set_option maxHeartbeats 1000000 in
theorem num_calls (w : World) (p : Nat) (ob : List Nat) (bs : List UInt8) (er : Int) (h : IsW w p ob bs er) (n : Int) (h1 : -9223372036854775808 ≤ n) (h2 : n ≤ 9223372036854775807) (hbd : bs.length + 8 ≤ 1000000000) :
    Calls Try.prog 62 #[.pointer (some ⟨p, 0, none⟩), .int .i64 n] w (WOut w p ob (bs ++ numB n) er) := by
  have H := Lib.hid h
  clear h
  go_enter Try.func62, Try.ntmps62
  go_upto_region 0 with fail
  go_cut [4] (fun v wc => w = wc ∧ v = .int .u64 (nu n : Int))
  case first =>
    go_wp2_with fail
    go_meet
    exact ⟨rfl, by rw [wrap_flip n h1 h2]⟩
  case rest =>
    obtain ⟨rfl, rfl⟩ := hcut
    have hu : nu n < 18446744073709551616 := by unfold nu; omega
    obtain ⟨u, hu'⟩ : ∃ u, nu n = u := ⟨_, rfl⟩
    have HU := Lib.hid hu'
    rw [hu'] at hu ⊢
    clear hu'
    go_wp2_with fail
    go_loopg [5] 8 (fun g v wr => ∃ k ob', k ≤ 8 ∧ g = 8 - k ∧ v = .int .i64 (56 - 8 * (k : Int)) ∧ IsW wr p ob' (bs ++ (numB n).take k) er ∧ (∀ k ∈ ob', k ∈ ob ∨ w.heap.size ≤ k) ∧ Fr (p :: ob) w wr)
    case atStart => exact ⟨0, ob, by omega, by omega, rfl, by simpa using H.out, fun k hk => .inl hk, Fr.refl _ _⟩
    case round =>
      obtain ⟨k, ob', hk, rfl, rfl, hi, hob, hf⟩ := hrel
      have HI := Lib.hid hi; have HOB := Lib.hid hob; have HF := Lib.hid hf
      clear hi hob hf
      by_cases hlt : k < 8
      · have hbl : (bs ++ (numB n).take k).length + 1 ≤ 1000000000 := by simp; omega
        have HY := Lib.hid (num_byte u k hlt)
        go_wp2_with fail
        refine (byte_calls wr p ob' _ er HI.out _ (UInt8.ofNat (u / 256 ^ (7 - k))) HY.out hbl).mono ?_
        rintro e w1 ⟨rfl, hh⟩
        have HH := Lib.hid hh; clear hh
        go_wp2_with fail
        go_roundg (8 - (k + 1))
        case measure => omega
        case rel =>
          obtain ⟨_, ob2, hi, hk2, f1⟩ := WOut.then HOB.out HF.out (show WOut wr p ob' _ er (.returned (.tuple #[])) w1 from ⟨rfl, HH.out⟩)
          refine ⟨k + 1, ob2, by omega, rfl, ?_, ?_, hk2, f1⟩
          · congr 1; omega
          · have e : (numB n).take (k + 1) = (numB n).take k ++ [UInt8.ofNat (u / 256 ^ (7 - k))] := by
              rw [List.take_succ_eq_append_getElem (by simp [numB]; omega)]
              congr 2
              simp [numB, HU.out]
            rw [e, ← List.append_assoc]; exact hi
      · obtain rfl : k = 8 := by omega
        go_wp2_with fail
        go_end0
        have e : (numB n).take 8 = numB n := List.take_of_length_le (by simp [numB])
        exact ⟨rfl, ob', by rw [← e]; exact HI.out, HOB.out, HF.out⟩

/-- a row's bytes -/
def rowB (r : List Int) : List UInt8 := UInt8.ofNat r.length :: r.flatMap numB
theorem numB_length (n : Int) : (numB n).length = 8 := by simp [numB]
theorem nums_length (r : List Int) : (r.flatMap numB).length = 8 * r.length := by
  induction r with
  | nil => rfl
  | cons x r ih => simp [numB_length, ih]; omega

theorem size64 : (Try.prog.info? 2).map (·.size) = some 1 := by kernel_rfl

/-- A row of bytes that the call has made. -/
def OwnBytes (w : World) (l : List UInt8) (e : Ending) (w' : World) : Prop :=
  ∃ A c, e = .returned (.slice A l.length c) ∧ w'.ownsRow w.heap.size 5 1 (.slice A l.length c) l.length (u8s l) ∧ Fr [] w w'
theorem OwnBytes.mk' {w w' : World} {l : List UInt8} {v : Value} {n : Nat} (h : w'.ownsRow w.heap.size 5 1 v n (u8s l)) (hf : Fr [] w w') : OwnBytes w l (.returned v) w' := by
  obtain ⟨A, c, rfl, h'⟩ := own_form h
  exact ⟨A, c, rfl, h', hf⟩

theorem clone_calls (w : World) (A : Option Addr) (c : Nat) (l : List UInt8) (hA : Rd w A l) (hn : l.length ≤ 1000000000) :
    Calls Try.prog 35 #[.slice A l.length c] w (OwnBytes w l) := by
  have heq : ∀ w : World, (binOp .eql 26 (.slice A l.length c) (.slice none 0 0)).run Try.prog w = .ok (.bool A.isNone) w := fun w => Lib.run_eql_slice_nil (P := Try.prog) w 26 5 A l.length c 0 0 Try.underlying26
  have HA := Lib.hid hA
  have HL := Lib.hid hn
  cases A with
  | none =>
    have hl : l = [] := by
      rcases Nat.eq_zero_or_pos l.length with h0 | h0
      · exact List.eq_nil_of_length_eq_zero h0
      · obtain ⟨_, _, hA, _⟩ := hA h0; cases hA
    have HE := Lib.hid hl
    clear hA hn hl
    go_enter Try.func35, Try.ntmps35
    go_wp2
    go_ret
    rw [HE.out]
    exact OwnBytes.mk' (n := 0) (World.ownsRow_nil _ _ _ _) (Fr.refl _ _)
  | some ad =>
    have HS := Lib.hid ((hA.fr ((Fr.refl [] w).alloc (.cells #[] 5)) (by simp)).srcAll)
    have HO := Lib.hid (World.ownsRow_made (base := w.heap.size) (e := 5) (size := 1) w #[] 0 (Nat.le_refl _) (by decide) (by simp))
    have h63 : 0 + l.length ≤ maxLen := by unfold maxLen; omega
    have hby : (0 + l.length) * 1 ≤ 140737488355328 := by omega
    have hlen : (u8s l).length = l.length * 1 := by simp
    clear hA hn
    go_enter Try.func35, Try.ntmps35
    go_wp2_with (at_builtin; refine wpList_append rfl (.tmp 5) (.tmp 6) 26 rfl w.heap.size 5 (.int .u8 0) 1 1 Try.underlying26 infoU8 rfl (by decide) (.slice (some ⟨w.heap.size, 0, none⟩) 0 0) 0 [] rfl HO.out _ _ _ (u8s l) rfl hlen HS.out (u8s_one _) h63 hby (by simp) ?_; intro v1 w1 ho1 hw1 hg1 hb1)
    go_ret
    exact OwnBytes.mk' (by simpa using ho1) (((Fr.refl [] w).alloc _).thenBelow hw1)
theorem clone_n (w : World) (A : Option Addr) (m c : Nat) (l : List UInt8) (hm : l.length = m) (hA : Rd w A l) (hn : m ≤ 1000000000) :
    Calls Try.prog 35 #[.slice A m c] w (OwnBytes w l) := by
  subst hm
  exact clone_calls w A c l hA hn

theorem IsW.slice {w : World} {p : Nat} {ob : List Nat} {bs : List UInt8} {e : Int} (h : IsW w p ob bs e) :
    ∃ A c, Blk w p 102 #[.slice A bs.length c, .int .i64 e] ∧ w.ownsRow 0 5 1 (.slice A bs.length c) bs.length (u8s bs) ∧ Rd w A bs := by
  obtain ⟨⟨v, hb, hown, _⟩, _⟩ := h
  obtain ⟨A, c, rfl, hown'⟩ := own_form hown
  obtain ⟨A', c', e', _, _, hrd, _, _⟩ := own_rd hown'
  cases e'
  exact ⟨A, c, hb, hown', hrd⟩

/-- the bytes told: none where a part was refused -/
theorem bytes_calls (w : World) (p : Nat) (ob : List Nat) (bs : List UInt8) (er : Int) (h : IsW w p ob bs er) (hbd : bs.length ≤ 1000000000) :
    Calls Try.prog 64 #[.pointer (some ⟨p, 0, none⟩)] w (OwnBytes w (if er = 0 then bs else [])) := by
  obtain ⟨A, c, hb, hown, hrd⟩ := h.slice
  have h0 : w.cell? ⟨p, 0, none⟩ = some (.slice A bs.length c) := by rw [hb.cell]; rfl
  have h1 : w.cell? ⟨p, 1, none⟩ = some (.int .i64 er) := by rw [hb.cell]; rfl
  have HC := Lib.hid (clone_n w A bs.length c bs rfl hrd hbd)
  clear h hb hown hrd
  by_cases he : er = 0
  · rw [if_pos he]
    have hb : (er != 0) = false := by rw [bne_eq_false_iff_eq]; exact he
    clear he
    go_enter Try.func64, Try.ntmps64
    go_wp2_with fail
    refine HC.out.mono ?_
    rintro e w1 ⟨A1, c1, rfl, ho, hf⟩
    have HO := Lib.hid ho; have HF := Lib.hid hf; clear ho hf
    go_wp2_with fail
    go_ret
    exact ⟨A1, c1, rfl, HO.out, HF.out⟩
  · rw [if_neg he]
    have hb : (er != 0) = true := by rw [bne_iff_ne]; exact he
    clear he
    go_enter Try.func64, Try.ntmps64
    go_wp2_with fail
    go_ret
    exact OwnBytes.mk' (n := 0) (World.ownsRow_nil _ _ _ _) (Fr.refl _ _)
end Go.Proofs.Ytmmjihkcofgmmaa

/- codec.Reader: contracts, where what is read is there. -/
namespace Go.Proofs.Ytmmjihkcofgmmaa
open Go.RowKit

/-- At block p lies a reader; what it has not read lies in block g. -/
structure IsR (w : World) (p g : Nat) (l : List UInt8) (e : Int) : Prop where
  lies : ∃ A c, Blk w p 97 #[.slice A l.length c, .int .i64 e] ∧ Rd w A l ∧ l.length ≤ c ∧ ∀ ad, A = some ad → ad.block = g ∧ ad = ⟨ad.block, ad.off, none⟩
  ne_ : p ≠ g

theorem IsR.fr {w w' : World} {p g : Nat} {l : List UInt8} {e : Int} {S : List Nat} (h : IsR w p g l e) (hf : Fr S w w') (hp : p ∉ S) (hg : g ∉ S) : IsR w' p g l e := by
  obtain ⟨⟨A, c, hb, hr, hc, ha⟩, hne⟩ := h
  exact ⟨⟨A, c, hb.fr hf hp, hr.fr hf (fun b off hA => by have := (ha _ hA).1; simp at this; rw [this]; exact hg), hc, ha⟩, hne⟩
theorem IsR.lt {w : World} {p g : Nat} {l : List UInt8} {e : Int} (h : IsR w p g l e) : p < w.heap.size := by
  obtain ⟨⟨_, _, hb, _⟩, _⟩ := h
  exact hb.lt

theorem Rd.drop {w : World} {A : Option Addr} {l : List UInt8} (h : Rd w A l) (n c : Nat) (hn : n ≤ l.length) (hc : l.length ≤ c) : Rd w (if c = n then A else A.map (·.add n)) (l.drop n) := by
  intro hl
  simp at hl
  obtain ⟨b, off, rfl, hcell⟩ := h (by omega)
  rw [if_neg (by omega)]
  refine ⟨b, off + n, by simp [addr_add0], fun j x hx => ?_⟩
  rw [List.getElem?_drop] at hx
  have := hcell (n + j) x hx
  rwa [Nat.add_assoc]

def TakePost (w : World) (p g : Nat) (l : List UInt8) (n : Nat) (e : Ending) (w' : World) : Prop :=
  ∃ A c, e = .returned (.tuple #[.slice A n c, .bool true]) ∧ n ≤ c ∧ Rd w' A (l.take n) ∧ (∀ ad, A = some ad → ad.block = g ∧ ad = ⟨ad.block, ad.off, none⟩) ∧ IsR w' p g (l.drop n) 0 ∧ Fr [p] w w'

theorem take_ok (w : World) (p g : Nat) (l : List UInt8) (h : IsR w p g l 0) (n : Nat) (hn : n ≤ l.length) (hl : l.length ≤ 1000000000) :
    Calls Try.prog 58 #[.pointer (some ⟨p, 0, none⟩), .int .i64 (n : Int)] w (TakePost w p g l n) := by
  obtain ⟨⟨A, c, hb, hr, hc, ha⟩, hne⟩ := h
  have h0 : w.cell? ⟨p, 0, none⟩ = some (.slice A l.length c) := by rw [hb.cell]; rfl
  have h1 : w.cell? ⟨p, 1, none⟩ = some (.int .i64 0) := by rw [hb.cell]; rfl
  have hz := hb.frozen
  have hnc : n ≤ c := by omega
  have HB := Lib.hid hb; have HR := Lib.hid hr; have HA := Lib.hid ha; have HNE := Lib.hid hne
  clear hb hr ha hne
  by_cases hcn : c = n
  · subst hcn
    have hlen : l.length = c := by omega
    have HLEN := Lib.hid hlen
    rw [hlen] at h0
    clear hlen
    go_enter Try.func58, Try.ntmps58
    go_wp2
    go_ret2
    have hb2 := HB.out.set_ 0 (.slice A 0 0)
    have hf : Fr [p] w (w.setCell ⟨p, 0, none⟩ (.slice A 0 0)) := (Fr.refl _ _).setCell (.inl (by simp)) _
    have hS : ∀ b off, A = some ⟨b, off, none⟩ → b ∉ [p] := fun b off hA => by have := (HA.out _ hA).1; simp at this; have := HNE.out; simp; omega
    refine ⟨A, c, rfl, Nat.le_refl _, (HR.out.take c).fr hf hS, HA.out, ⟨⟨A, 0, ?_, ?_, ?_, HA.out⟩, HNE.out⟩, hf⟩
    · have e : (l.drop c).length = 0 := by have := HLEN.out; simp; omega
      rw [e]; simpa using hb2
    · intro hl; have := HLEN.out; simp at hl; omega
    · have := HLEN.out; simp; omega
  · go_enter Try.func58, Try.ntmps58
    go_wp2
    go_ret2
    have hb2 := HB.out.set_ 0 (.slice (Option.map (fun x => x.add n) A) (l.length - n) (c - n))
    have hf : Fr [p] w (w.setCell ⟨p, 0, none⟩ (.slice (Option.map (fun x => x.add n) A) (l.length - n) (c - n))) := (Fr.refl _ _).setCell (.inl (by simp)) _
    have hS : ∀ b off, A = some ⟨b, off, none⟩ → b ∉ [p] := fun b off hA => by have := (HA.out _ hA).1; simp at this; have := HNE.out; simp; omega
    have hd := HR.out.drop n c hn hc
    rw [if_neg hcn] at hd
    refine ⟨A, c, rfl, hnc, (HR.out.take n).fr hf hS, HA.out, ⟨⟨_, c - n, ?_, hd.fr hf (fun b off hA => ?_), ?_, fun ad hA => ?_⟩, HNE.out⟩, hf⟩
    · rw [List.length_drop]; simpa using hb2
    · cases A with
      | none => simp at hA
      | some ad =>
        have h1 := HA.out ad rfl
        rw [h1.2, Option.map_some, addr_add0] at hA
        simp at hA
        have := h1.1; have := HNE.out; simp; omega
    · simp; omega
    · cases A with
      | none => simp at hA
      | some ad' =>
        have h1 := HA.out ad' rfl
        rw [h1.2, Option.map_some, addr_add0] at hA
        simp at hA
        subst hA
        exact ⟨h1.1, rfl⟩

def FailPost (w : World) (p g : Nat) (l : List UInt8) (x : Int) (e : Ending) (w' : World) : Prop := e = .returned (.tuple #[]) ∧ IsR w' p g l x ∧ Fr [p] w w'
theorem fail_first (w : World) (p g : Nat) (l : List UInt8) (h : IsR w p g l 0) (x : Int) :
    Calls Try.prog 59 #[.pointer (some ⟨p, 0, none⟩), .int .i64 x] w (FailPost w p g l x) := by
  obtain ⟨⟨A, c, hb, hr, hc, ha⟩, hne⟩ := h
  have h1 : w.cell? ⟨p, 1, none⟩ = some (.int .i64 0) := by rw [hb.cell]; rfl
  have hz := hb.frozen
  have HB := Lib.hid hb; have HR := Lib.hid hr; have HA := Lib.hid ha; have HNE := Lib.hid hne
  clear hb hr ha hne
  go_enter Try.func59, Try.ntmps59
  go_wp2
  go_end0
  have hb2 := HB.out.set_ 1 (.int .i64 x)
  have hf : Fr [p] w (w.setCell ⟨p, 1, none⟩ (.int .i64 x)) := (Fr.refl _ _).setCell (.inl (by simp)) _
  exact ⟨rfl, ⟨⟨A, c, by simpa using hb2, HR.out.fr hf (fun b off hA => by have := (HA.out _ hA).1; have := HNE.out; simp at *; omega), hc, HA.out⟩, HNE.out⟩, hf⟩

theorem rerr_calls (w : World) (p g : Nat) (l : List UInt8) (er : Int) (h : IsR w p g l er) :
    Calls Try.prog 48 #[.pointer (some ⟨p, 0, none⟩)] w fun e w' => e = .returned (.int .i64 er) ∧ w = w' := by
  obtain ⟨⟨A, c, hb, _⟩, _⟩ := h
  have h1 : w.cell? ⟨p, 1, none⟩ = some (.int .i64 er) := by rw [hb.cell]; rfl
  clear hb
  go_enter Try.func48, Try.ntmps48
  go_wp2
  go_ret
  exact ⟨rfl, rfl⟩

def NewR (w : World) (l : List UInt8) (e : Ending) (w' : World) : Prop :=
  ∃ p g, e = .returned (.pointer (some ⟨p, 0, none⟩)) ∧ IsR w' p g l 0 ∧ w.heap.size ≤ p ∧ w.heap.size ≤ g ∧ Fr [] w w'

theorem newr_calls (w : World) (A : Option Addr) (m c : Nat) (l : List UInt8) (hm : l.length = m) (hA : Rd w A l) (hn : m ≤ 1000000000) :
    Calls Try.prog 45 #[.slice A m c] w (NewR w l) := by
  subst hm
  have HC := Lib.hid (clone_n w A l.length c l rfl hA hn)
  clear hA
  go_enter Try.func45, Try.ntmps45
  go_wp2_with fail
  refine HC.out.mono ?_
  rintro e w1 ⟨A1, c1, rfl, ho, hf⟩
  have HO := Lib.hid ho; have HF := Lib.hid hf; clear ho hf
  go_wp2_with fail
  go_ret
  obtain ⟨A', c', e', _, hc, hrd, hb, hsp⟩ := own_rd HO.out
  cases e'
  have hb2 := Blk.new w1 97 #[.slice A1 l.length c1, .int .i64 0]
  cases A1 with
  | none =>
    exact ⟨w1.heap.size, w1.heap.size + 1, rfl, ⟨⟨none, c1, hb2, hrd.fr ((Fr.refl [] w1).alloc _) (by simp), hc, by simp⟩, by omega⟩, HF.out.size, Nat.le_succ_of_le HF.out.size, HF.out.alloc _⟩
  | some ad =>
    have e1 := hsp ad rfl
    have e2 := hb ad.block 0 (by rw [← e1])
    refine ⟨w1.heap.size, ad.block, rfl, ⟨⟨some ad, c1, hb2, hrd.fr ((Fr.refl [] w1).alloc _) (by simp), hc, fun ad' h => ?_⟩, ?_⟩, HF.out.size, e2.1, HF.out.alloc _⟩
    · cases h; exact ⟨rfl, by rw [e1]⟩
    · have := e2.2.2.2; omega
end Go.Proofs.Ytmmjihkcofgmmaa

/- codec.Reader: contracts of the parts, where what is read is there. -/
namespace Go.Proofs.Ytmmjihkcofgmmaa
open Go.RowKit

def TakeSome (w : World) (p g : Nat) (l : List UInt8) (n : Nat) (e : Ending) (w' : World) : Prop :=
  ∃ off c, e = .returned (.tuple #[.slice (some ⟨g, off, none⟩) n c, .bool true]) ∧ n ≤ c ∧ (∀ j x, (l.take n)[j]? = some x → w'.cell? ⟨g, off + j, none⟩ = some (u8v x)) ∧ IsR w' p g (l.drop n) 0 ∧ Fr [p] w w'
theorem take_some (w : World) (p g : Nat) (l : List UInt8) (h : IsR w p g l 0) (n : Nat) (hn0 : 0 < n) (hn : n ≤ l.length) (hl : l.length ≤ 1000000000) :
    Calls Try.prog 58 #[.pointer (some ⟨p, 0, none⟩), .int .i64 (n : Int)] w (TakeSome w p g l n) := by
  refine (take_ok w p g l h n hn hl).mono ?_
  rintro e w' ⟨A, c, rfl, hc, hr, ha, hi, hf⟩
  obtain ⟨b, off, rfl, hcell⟩ := hr (by simp; omega)
  have := (ha _ rfl).1
  simp at this
  subst this
  exact ⟨off, c, rfl, hc, hcell, hi, hf⟩

/-- what a read of a part leaves -/
def RPost (w : World) (p g : Nat) (v : Value) (l : List UInt8) (er : Int) (e : Ending) (w' : World) : Prop :=
  e = .returned v ∧ IsR w' p g l er ∧ Fr [p] w w'

theorem rbyte_ok (w : World) (p g : Nat) (x : UInt8) (l : List UInt8) (h : IsR w p g (x :: l) 0) (hl : l.length + 1 ≤ 1000000000) :
    Calls Try.prog 46 #[.pointer (some ⟨p, 0, none⟩)] w (RPost w p g (.int .u8 (x.toNat : Int)) l 0) := by
  have HT : Hid (Calls Try.prog 58 #[.pointer (some ⟨p, 0, none⟩), .int .i64 1] w (TakeSome w p g (x :: l) 1)) := Lib.hid (take_some w p g _ h 1 (by omega) (by simp) (by simpa using hl))
  clear h
  go_enter Try.func46, Try.ntmps46
  go_wp2_with fail
  refine HT.out.mono ?_
  rintro e w1 ⟨off, c, rfl, hc, hcell, hi, hf⟩
  have h0 : w1.cell? ⟨g, off, none⟩ = some (.int .u8 (x.toNat : Int)) := hcell 0 x rfl
  have HI := Lib.hid hi; have HF := Lib.hid hf
  clear hcell hi hf
  go_wp2_with fail
  go_ret
  exact ⟨rfl, HI.out, HF.out⟩

/-- a count, out of its bytes -/
def cnt (x y z : UInt8) : Nat := 65536 * x.toNat + 256 * y.toNat + z.toNat

theorem i64_or_nat (a b : Nat) (ha : a < 9223372036854775808) (hb : b < 9223372036854775808) : bits .or .i64 (a : Int) (b : Int) = ((a ||| b : Nat) : Int) := by
  have hx : a ||| b < 2 ^ 63 := Nat.or_lt_two_pow (by omega) (by omega)
  show IntKind.i64.wrap ((BitVec.ofInt 64 (a : Int) ||| BitVec.ofInt 64 (b : Int)).toNat : Int) = _
  have e : ∀ a : Nat, a < 9223372036854775808 → (BitVec.ofInt 64 (a : Int)).toNat = a := fun a ha => by
    rw [BitVec.ofInt_natCast, BitVec.toNat_ofNat]; exact Nat.mod_eq_of_lt (by omega)
  rw [BitVec.toNat_or, e a ha, e b hb, IntKind.wrap_i64]
  omega
theorem or_add (a b k : Nat) (h : b < 2 ^ k) : (2 ^ k * a) ||| b = 2 ^ k * a + b := (Nat.two_pow_add_eq_or_of_lt h a).symm

theorem cnt_bits (x y z : UInt8) : bits .or .i64 (bits .or .i64 ((x.toNat : Int) * 65536) ((y.toNat : Int) * 256)) (z.toNat : Int) = (cnt x y z : Int) := by
  have hx := x.toNat_lt; have hy := y.toNat_lt; have hz := z.toNat_lt
  have e1 : ((x.toNat : Int) * 65536) = ((2 ^ 16 * x.toNat : Nat) : Int) := by omega
  have e2 : ((y.toNat : Int) * 256) = ((2 ^ 8 * y.toNat : Nat) : Int) := by omega
  rw [e1, e2, i64_or_nat _ _ (by omega) (by omega), or_add _ _ _ (show 2 ^ 8 * y.toNat < 2 ^ 16 by omega)]
  have e3 : 2 ^ 16 * x.toNat + 2 ^ 8 * y.toNat = 2 ^ 8 * (2 ^ 8 * x.toNat + y.toNat) := by omega
  rw [e3, i64_or_nat _ _ (by omega) (by omega), or_add _ _ _ (show z.toNat < 2 ^ 8 by omega)]
  unfold cnt
  omega
theorem IsR.drewN {w : World} {p g : Nat} {l : List UInt8} {e : Int} (h : IsR w p g l e) (n : Nat) : IsR (w.drewN n) p g l e := h.fr ((Fr.refl [] w).drewN n) (by simp) (by simp)

theorem rcount_calls (w : World) (p g : Nat) (x y z : UInt8) (l : List UInt8) (h : IsR w p g (x :: y :: z :: l) 0) (hl : l.length + 3 ≤ 1000000000) (most : Int) :
    Calls Try.prog 47 #[.pointer (some ⟨p, 0, none⟩), .int .i64 most] w
      (if (cnt x y z : Int) ≤ min most 1048576 then RPost w p g (.int .i64 (cnt x y z : Int)) l 0 else RPost w p g (.int .i64 0) l 10) := by
  have HT : Hid (Calls Try.prog 58 #[.pointer (some ⟨p, 0, none⟩), .int .i64 3] w (TakeSome w p g (x :: y :: z :: l) 3)) := Lib.hid (take_some w p g _ h 3 (by omega) (by simp) (by simpa using hl))
  have hx := x.toNat_lt; have hy := y.toNat_lt; have hz := z.toNat_lt
  clear h
  obtain ⟨Q, hQ⟩ : ∃ Q, Q = (if (cnt x y z : Int) ≤ min most 1048576 then RPost w p g (.int .i64 (cnt x y z : Int)) l 0 else RPost w p g (.int .i64 0) l 10) := ⟨_, rfl⟩
  rw [← hQ]
  have HQ := Lib.hid hQ
  clear hQ
  go_enter Try.func47, Try.ntmps47
  go_wp2_with fail
  refine HT.out.mono ?_
  rintro e w1 ⟨off, c, rfl, hc, hcell, hi, hf⟩
  have h0 : w1.cell? ⟨g, off, none⟩ = some (.int .u8 (x.toNat : Int)) := hcell 0 x rfl
  have h1 : w1.cell? ⟨g, off + 1, none⟩ = some (.int .u8 (y.toNat : Int)) := hcell 1 y rfl
  have h2 : w1.cell? ⟨g, off + 2, none⟩ = some (.int .u8 (z.toNat : Int)) := hcell 2 z rfl
  have HI := Lib.hid hi; have HF := Lib.hid hf
  clear hcell hi hf
  go_upto_region 4 with fail
  go_cut [7] (fun v wc => v = .int .i64 (cnt x y z : Int) ∧ IsR wc p g l 0 ∧ Fr [p] w wc)
  case first =>
    go_quiet (fail)
    go_wp2_with fail
    go_meet
    exact ⟨by rw [cnt_bits], HI.out.drewN _, HF.out.drewN _⟩
  case rest =>
    obtain ⟨rfl, hi, hf⟩ := hcut
    have HI2 := Lib.hid hi; have HF2 := Lib.hid hf
    obtain ⟨v, hv⟩ : ∃ v, cnt x y z = v := ⟨_, rfl⟩
    have hvb : v ≤ 16777215 := by rw [← hv]; unfold cnt; omega
    rw [hv] at HQ ⊢
    have HV := Lib.hid hv
    clear hi hf hv
    by_cases hle : (v : Int) ≤ min most 1048576
    · have HE := Lib.hid (HQ.out.trans (if_pos hle))
      have hm1 : (v : Int) ≤ most := by omega
      have hm2 : v ≤ 1048576 := by omega
      clear hle
      by_cases hm : most ≤ 1048576
      · go_wp2_with fail
        rw [HE.out]; exact ⟨rfl, HI2.out, HF2.out⟩
      · go_wp2_with fail
        rw [HE.out]; exact ⟨rfl, HI2.out, HF2.out⟩
    · have HE := Lib.hid (HQ.out.trans (if_neg hle))
      have HFL := Lib.hid (fail_first wc p g l HI2.out 10)
      by_cases hm : most ≤ 1048576
      · have hgt : most < v := by omega
        clear hle
        go_wp2_with fail
        refine HFL.out.mono ?_
        rintro e w3 ⟨rfl, hi3, hf3⟩
        have HI3 := Lib.hid hi3; have HF3 := Lib.hid hf3; clear hi3 hf3
        go_wp2_with fail
        rw [HE.out]; exact ⟨rfl, HI3.out, HF2.out.trans HF3.out⟩
      · have hgt : 1048576 < v := by omega
        clear hle
        go_wp2_with fail
        refine HFL.out.mono ?_
        rintro e w3 ⟨rfl, hi3, hf3⟩
        have HI3 := Lib.hid hi3; have HF3 := Lib.hid hf3; clear hi3 hf3
        go_wp2_with fail
        rw [HE.out]; exact ⟨rfl, HI3.out, HF2.out.trans HF3.out⟩

end Go.Proofs.Ytmmjihkcofgmmaa

/- The document's example. -/
namespace Go.Proofs.Ytmmjihkcofgmmaa
open Go.RowKit

def Quiet (v : Value) (w : World) (e : Ending) (w' : World) : Prop := e = .returned v ∧ Fr [] w w'

theorem isW_new (w : World) : IsW (w.alloc (.cells #[.slice none 0 0, .int .i64 0] 102)) w.heap.size [] [] 0 :=
  ⟨⟨.slice none 0 0, Blk.new _ _ _, World.ownsRow_nil _ _ _ _, by simp [Value.ownBlock]⟩, by simp⟩
theorem own_bytes_rd {w w' : World} {l : List UInt8} {A : Option Addr} {c : Nat} (h : w'.ownsRow w.heap.size 5 1 (.slice A l.length c) l.length (u8s l)) : Rd w' A l := by
  obtain ⟨A', c', e', _, _, hrd, _⟩ := own_rd h
  cases e'
  exact hrd

theorem IsR.glt {w : World} {p g : Nat} {x : UInt8} {l : List UInt8} {e : Int} (h : IsR w p g (x :: l) e) : g < w.heap.size := by
  obtain ⟨⟨A, c, _, hr, _, ha⟩, _⟩ := h
  obtain ⟨b, off, rfl, hc⟩ := hr (by simp)
  have := (ha _ rfl).1
  simp at this
  subst this
  exact World.block_lt_of_cell? _ _ (hc 0 x rfl)

/-- the bytes told, of a writer that refused nothing -/
def BytesOk (w : World) (m : Nat) (l : List UInt8) (e : Ending) (w' : World) : Prop :=
  ∃ A c, e = .returned (.slice A m c) ∧ m ≤ c ∧ Rd w' A l ∧ (∀ b off, A = some ⟨b, off, none⟩ → w.heap.size ≤ b ∧ off = 0 ∧ b < w'.heap.size) ∧ (∀ ad, A = some ad → ad = ⟨ad.block, 0, none⟩) ∧ Fr [] w w'
theorem bytes_ok (w : World) (p : Nat) (ob : List Nat) (bs : List UInt8) (h : IsW w p ob bs 0) (m : Nat) (hm : bs.length = m) (hbd : m ≤ 1000000000) :
    Calls Try.prog 64 #[.pointer (some ⟨p, 0, none⟩)] w (BytesOk w m bs) := by
  subst hm
  refine (bytes_calls w p ob bs 0 h hbd).mono ?_
  rw [if_pos rfl]
  rintro e w' ⟨A, c, rfl, ho, hf⟩
  obtain ⟨A', c', e', _, hc, hrd, hb, hsp⟩ := own_rd ho
  cases e'
  exact ⟨A, c, rfl, hc, hrd, fun b off hA => ⟨(hb b off hA).1, (hb b off hA).2.1, (hb b off hA).2.2.2⟩, hsp, hf⟩

def alB : List UInt8 := [] ++ countB 258 ++ numB (-1) ++ (countB 2 ++ [97, 98])
theorem alB_length : alB.length = 16 := by decide +kernel

/-- A writer that was made behind w0, with all that it wrote. -/
structure Wr (w0 w : World) (p : Nat) (ob : List Nat) (bs : List UInt8) (er : Int) : Prop where
  is_ : IsW w p ob bs er
  new_ : w0.heap.size ≤ p
  obs : ∀ k ∈ ob, w0.heap.size ≤ k ∧ k < w.heap.size
  fr_ : Fr [] w0 w

theorem Wr.fr {w0 w w' : World} {p : Nat} {ob : List Nat} {bs : List UInt8} {er : Int} {S : List Nat} (h : Wr w0 w p ob bs er) (hf : Fr S w w') (hp : p ∉ S) (ho : ∀ k ∈ ob, k ∉ S) (hS : ∀ x ∈ S, w0.heap.size ≤ x) : Wr w0 w' p ob bs er :=
  ⟨h.is_.fr hf hp ho, h.new_, fun k hk => ⟨(h.obs k hk).1, Nat.lt_of_lt_of_le (h.obs k hk).2 hf.size⟩, h.fr_.trans' hf (fun x hx => .inr (hS x hx))⟩
theorem Wr.lt {w0 w : World} {p : Nat} {ob : List Nat} {bs : List UInt8} {er : Int} (h : Wr w0 w p ob bs er) : p < w.heap.size := h.is_.lt
/-- nothing there was touched -/
theorem Wr.fr0 {w0 w w' : World} {p : Nat} {ob : List Nat} {bs : List UInt8} {er : Int} (h : Wr w0 w p ob bs er) (hf : Fr [] w w') : Wr w0 w' p ob bs er := h.fr hf (by simp) (by simp) (by simp)
/-- only newer blocks were touched -/
theorem Wr.tight {w : World} {p : Nat} {ob : List Nat} {bs : List UInt8} {er : Int} (h : IsW w p ob bs er) : ∃ ob', IsW w p ob' bs er ∧ ∀ k ∈ ob', k ∈ ob ∧ k < w.heap.size := by
  obtain ⟨⟨v, hb, hown, hk⟩, hout⟩ := h
  refine ⟨v.ownBlock.toList, ⟨⟨v, hb, hown, fun k hk => by simpa using hk⟩, fun hm => ?_⟩, fun k hk' => ?_⟩
  · simp at hm; exact hout (hk p hm)
  · simp at hk'
    refine ⟨hk k hk', ?_⟩
    exact (hown.lt k hk').2

def WrOut (w0 w : World) (p : Nat) (ob : List Nat) (bs : List UInt8) (er : Int) (e : Ending) (w' : World) : Prop :=
  e = .returned (.tuple #[]) ∧ ∃ ob', Wr w0 w' p ob' bs er ∧ (∀ k ∈ ob', k ∈ ob ∨ w.heap.size ≤ k) ∧ Fr (p :: ob) w w'
theorem Wr.op {w0 w : World} {p : Nat} {ob : List Nat} {bs bs' : List UInt8} {er er' : Int} (h : Wr w0 w p ob bs er) {f : Nat} {args : Array Value} (hc : Calls Try.prog f args w (WOut w p ob bs' er')) :
    Calls Try.prog f args w (WrOut w0 w p ob bs' er') := by
  refine hc.mono ?_
  rintro e w' ⟨rfl, ob', hi, hk, hf⟩
  obtain ⟨ob2, hi2, hk2⟩ := Wr.tight hi
  have hs := h.fr_.size
  have hl : ∀ x ∈ p :: ob, w0.heap.size ≤ x := fun x hx => by
    rcases List.mem_cons.1 hx with rfl | hx
    · exact h.new_
    · exact (h.obs x hx).1
  refine ⟨rfl, ob2, ⟨hi2, h.new_, fun k hk' => ⟨?_, (hk2 k hk').2⟩, h.fr_.trans' hf (fun x hx => .inr (hl x hx))⟩, fun k hk' => hk k (hk2 k hk').1, hf⟩
  rcases hk k (hk2 k hk').1 with h1 | h1
  · exact (h.obs k h1).1
  · omega
theorem Wr.new {w0 w : World} (h : Fr [] w0 w) : Wr w0 (w.alloc (.cells #[.slice none 0 0, .int .i64 0] 102)) w.heap.size [] [] 0 :=
  ⟨isW_new w, h.size, by simp, h.alloc _⟩

theorem rd_marked (w : World) (l : List UInt8) (t : TypeId) (fr : Nat × Nat) : Rd (w.alloc (.cells (u8s l).toArray t fr)) (some ⟨w.heap.size, 0, none⟩) l := fun _ => ⟨_, 0, rfl, fun j x hx => by
  rw [World.cell?_alloc_mark, Nat.zero_add]; simp [u8s, hx]⟩

end Go.Proofs.Ytmmjihkcofgmmaa

/- The document's bytes of parts. -/
namespace Go.Proofs.Ytmmjihkcofgmmaa
open Go.RowKit

/-- m bytes l, in a row that the call has made -/
def OwnN (w : World) (m : Nat) (l : List UInt8) (e : Ending) (w' : World) : Prop :=
  ∃ A c, e = .returned (.slice A m c) ∧ w'.ownsRow w.heap.size 5 1 (.slice A m c) m (u8s l) ∧ Fr [] w w'
theorem OwnN.of {w w' : World} {l : List UInt8} {v : Value} {n : Nat} (h : w'.ownsRow w.heap.size 5 1 v n (u8s l)) (hf : Fr [] w w') : OwnN w n l (.returned v) w' := by
  obtain ⟨A, c, rfl, h'⟩ := own_form h
  have : n = l.length := by have := h.1; simp at this; omega
  subst this
  exact ⟨A, c, rfl, h', hf⟩
/-- likewise, to be read -/
def RdN (w : World) (m : Nat) (l : List UInt8) (e : Ending) (w' : World) : Prop :=
  ∃ A c, e = .returned (.slice A m c) ∧ m ≤ c ∧ Rd w' A l ∧ (∀ b off, A = some ⟨b, off, none⟩ → w.heap.size ≤ b ∧ b < w'.heap.size) ∧ Fr [] w w'
theorem OwnN.rd {w w' : World} {m : Nat} {l : List UInt8} {e : Ending} (h : OwnN w m l e w') : RdN w m l e w' := by
  obtain ⟨A, c, rfl, ho, hf⟩ := h
  obtain ⟨A', c', e', _, hc, hrd, hb, _⟩ := own_rd ho
  injection e' with e1 e2 e3
  subst e1 e3
  exact ⟨A, c, rfl, by omega, hrd, fun b off hA => ⟨(hb b off hA).1, (hb b off hA).2.2.2⟩, hf⟩
theorem OwnN.rdd {w' : World} {base m c : Nat} {l : List UInt8} {A : Option Addr} (h : w'.ownsRow base 5 1 (.slice A m c) m (u8s l)) : Rd w' A l := by
  obtain ⟨A', c', e', _, _, hrd, _⟩ := own_rd h
  injection e' with e1 e2 e3
  subst e1
  exact hrd
theorem lit_own (w : World) (base : Nat) (hb : base ≤ w.heap.size) (l : List UInt8) (n : Nat) (hn : l.length = n) (hm : n ≤ 1000) : (w.alloc (.cells (u8s l).toArray 5)).ownsRow base 5 1 (.slice (some ⟨w.heap.size, 0, none⟩) n n) n (u8s l) := by
  have := World.ownsRow_lit (base := base) (e := 5) (size := 1) w (u8s l).toArray n hb (by unfold maxLen; omega) (by simp [hn])
  simpa using this

theorem u8n_wrap (x : Int) : IntKind.u8.wrap x = ((UInt8.ofNat (x % 256).toNat).toNat : Int) := by
  rw [UInt8.toNat_ofNat', IntKind.wrap_u8]
  omega

/-- what ref.Count tells of any number -/
def cntL (n : Int) : List UInt8 := [UInt8.ofNat ((wrap64 (n.tdiv 65536)).tmod 256 % 256).toNat, UInt8.ofNat ((wrap64 (n.tdiv 256)).tmod 256 % 256).toNat, UInt8.ofNat ((n.tmod 256) % 256).toNat]
theorem cntL_nat (n : Nat) (hn : n ≤ 1048576) : cntL n = countB n := by
  unfold cntL countB
  have e1 : (wrap64 ((n : Int).tdiv 65536)).tmod 256 % 256 = ((n / 65536 % 256 : Nat) : Int) := by
    rw [Int.tdiv_eq_ediv_of_nonneg (by omega), show wrap64 ((n : Int) / 65536) = (n : Int) / 65536 by unfold wrap64; omega, Int.tmod_eq_emod_of_nonneg (by omega)]; omega
  have e2 : (wrap64 ((n : Int).tdiv 256)).tmod 256 % 256 = ((n / 256 % 256 : Nat) : Int) := by
    rw [Int.tdiv_eq_ediv_of_nonneg (by omega), show wrap64 ((n : Int) / 256) = (n : Int) / 256 by unfold wrap64; omega, Int.tmod_eq_emod_of_nonneg (by omega)]; omega
  have e3 : ((n : Int).tmod 256) % 256 = ((n % 256 : Nat) : Int) := by
    rw [Int.tmod_eq_emod_of_nonneg (by omega)]; omega
  rw [e1, e2, e3]
  simp only [Int.toNat_natCast]
  congr 1
  · apply UInt8.toNat_inj.1; rw [UInt8.toNat_ofNat', UInt8.toNat_ofNat']; omega
  · congr 1
    · apply UInt8.toNat_inj.1; rw [UInt8.toNat_ofNat', UInt8.toNat_ofNat']; omega
    · congr 1
      apply UInt8.toNat_inj.1; rw [UInt8.toNat_ofNat', UInt8.toNat_ofNat']; omega

theorem rcnt_calls (w : World) (n : Int) : Calls Try.prog 40 #[.int .i64 n] w (OwnN w 3 (cntL n)) := by
  go_enter Try.func40, Try.ntmps40
  go_wp2_with fail
  go_ret
  refine OwnN.of ?_ ((Fr.refl [] w).alloc _)
  have := lit_own w w.heap.size (Nat.le_refl _) (cntL n) 3 rfl (by omega)
  have e : (u8s (cntL n)).toArray = #[.int .u8 ((wrap64 (n.tdiv 65536)).tmod 256 % 256), .int .u8 ((wrap64 (n.tdiv 256)).tmod 256 % 256), .int .u8 (n.tmod 256 % 256)] := by
    have hz : ∀ x : Int, (UInt8.ofNat (x % 256).toNat).toNat = x % 256 := fun x => by rw [UInt8.toNat_ofNat']; omega
    simp only [u8s, cntL, u8v, List.map_cons, List.map_nil, hz]
  rw [e] at this
  exact this

/-- the number's bytes, the last k of them -/
def numK (n : Int) (k : Nat) : List UInt8 := List.replicate (8 - k) 0 ++ (numB n).drop (8 - k)
theorem numK_zero (n : Int) : numK n 0 = List.replicate 8 0 := by simp [numK, numB_length]
theorem numK_eight (n : Int) : numK n 8 = numB n := by simp [numK]
theorem numK_succ (n : Int) (k : Nat) (hk : k < 8) : (numK n k).set (7 - k) (UInt8.ofNat (nu n / 256 ^ k)) = numK n (k + 1) := by
  have h : k = 0 ∨ k = 1 ∨ k = 2 ∨ k = 3 ∨ k = 4 ∨ k = 5 ∨ k = 6 ∨ k = 7 := by omega
  rcases h with rfl | rfl | rfl | rfl | rfl | rfl | rfl | rfl <;> simp [numK, numB, show List.range 8 = [0, 1, 2, 3, 4, 5, 6, 7] from rfl]
theorem numK_length (n : Int) (k : Nat) (hk : k ≤ 8) : (numK n k).length = 8 := by simp [numK, numB_length]; try omega

theorem wrap_nu (n : Int) (h1 : -9223372036854775808 ≤ n) (h2 : n ≤ 9223372036854775807) : IntKind.u64.wrap (IntKind.u64.wrap n + 9223372036854775808) = (nu n : Int) := by
  rw [IntKind.wrap_u64, IntKind.wrap_u64]
  unfold nu
  omega

set_option maxHeartbeats 1000000 in
theorem rnum_calls (w : World) (n : Int) (h1 : -9223372036854775808 ≤ n) (h2 : n ≤ 9223372036854775807) : Calls Try.prog 41 #[.int .i64 n] w (OwnN w 8 (numB n)) := by
  have hmk : ∀ w : World, (Instr.makeSlice 26 (.int .i64 8) (.int .i64 8)).run Try.prog w = .ok (.slice (some ⟨w.heap.size, 0, none⟩) 8 8) (w.alloc (.cells (zs 8).toArray 5)) := fun w => by
    have := run_make_n (P := Try.prog) 26 5 (.int .u8 0) 1 1 Try.underlying26 infoU8 8 (by omega) (by omega) w
    rw [show (Value.int IntKind.u8 0).cells = #[.int .u8 0] from rfl, madeCells_one] at this
    exact this
  go_enter Try.func41, Try.ntmps41
  go_wp2_with fail
  go_loopg [3, 5] 8 (fun gg u v wr => ∃ k, k ≤ 8 ∧ gg = 8 - k ∧ v = .int .i64 (7 - (k : Int)) ∧ u = .int .u64 ((nu n / 256 ^ k : Nat) : Int) ∧ Blk wr w.heap.size 5 (u8s (numK n k)).toArray ∧ Fr [] w wr)
  case atStart => exact ⟨0, by omega, by omega, rfl, by rw [wrap_nu n h1 h2]; simp, by rw [numK_zero]; exact Blk.new w _ _, (Fr.refl _ _).alloc _⟩
  case round =>
    obtain ⟨k, hk, rfl, rfl, rfl, hb, hf⟩ := hrel
    have HB := Lib.hid hb; have HF := Lib.hid hf
    by_cases hlt : k < 8
    · obtain ⟨u, hu⟩ : ∃ u, nu n / 256 ^ k = u := ⟨_, rfl⟩
      have hz := HB.out.frozen (7 - k)
      obtain ⟨x, hx⟩ : ∃ x, (numK n k)[7 - k]? = some x := ⟨(numK n k)[7 - k]'(by rw [numK_length n k hk]; omega), by simp⟩
      have hc : wr.cell? ⟨w.heap.size, 7 - k, none⟩ = some (u8v x) := by rw [hb.cell, List.getElem?_toArray, u8s_get, hx]; rfl
      have ht : (7 - (k : Int)).toNat = 7 - k := by omega
      have HU := Lib.hid hu
      rw [hu]
      clear hu hb hf hx
      go_wp2_with fail
      go_roundg (8 - (k + 1))
      case measure => omega
      case rel =>
        have hb2 := HB.out.set_ (7 - k) (u8v (UInt8.ofNat u))
        have e : ((u8s (numK n k)).toArray.setIfInBounds (7 - k) (u8v (UInt8.ofNat u))) = (u8s (numK n (k + 1))).toArray := by
          rw [← numK_succ n k hlt, HU.out]
          simp [u8s, List.map_set]
        rw [e] at hb2
        have e2 : ((UInt8.ofNat u).toNat : Int) = (u : Int) % 256 := by rw [UInt8.toNat_ofNat']; omega
        rw [u8v, e2] at hb2
        refine ⟨k + 1, by omega, rfl, by congr 1; omega, ?_, hb2, HF.out.setCell (.inr (Nat.le_refl _)) _⟩
        rw [Nat.pow_succ, ← Nat.div_div_eq_div_mul, HU.out, IntKind.wrap_u64]
        have hub : u < 18446744073709551616 := by
          have : nu n < 18446744073709551616 := by unfold nu; omega
          rw [← HU.out]; exact Nat.lt_of_le_of_lt (Nat.div_le_self _ _) this
        congr 1
        omega
    · obtain rfl : k = 8 := by omega
      clear hb hf
      go_wp2_with fail
      go_ret
      refine OwnN.of ?_ HF.out
      have hb := HB.out
      rw [numK_eight] at hb
      exact ⟨by simp [numB_length], .inr ⟨w.heap.size, 8, (u8s (numB n)).toArray, rfl, Nat.le_refl _, hb, Nat.le_refl _, by unfold maxLen; omega, by simp [numB_length], List.take_of_length_le (by simp [numB_length])⟩⟩

/-- append of bytes to a row of the call's own -/
theorem wpList_appU8 {ops : Array Oper} {rest : List Oper} {o : Oper} {a : Act} {w : World} {Q : Exit → Act → World → Prop} (hgd : o.guard = none) (s x : Operand)
    (ho : o.op = .call { callee := .builtin .append, args := #[s, x], argTypes := #[26, 26] })
    (base : Nat) (v : Value) (n : Nat) (xs : List UInt8) (hs : a.eval s = v) (hown : w.ownsRow base 5 1 v n (u8s xs))
    (A : Option Addr) (m c : Nat) (l : List UInt8) (hx : a.eval x = .slice A m c) (hl : l.length = m) (hr : Rd w A l) (hbd : n + m ≤ 1000000000) (hbase : base ≤ w.heap.size)
    (h : ∀ A' c' w', w'.ownsRow base 5 1 (.slice A' (n + m) c') (n + m) (u8s (xs ++ l)) → Fr v.ownBlock.toList w w' → ((Value.slice A' (n + m) c').ownBlock = v.ownBlock ∨ (Value.slice A' (n + m) c').ownBlock = some w.heap.size) → wpList Try.prog ops Q rest (a.put o.dst (.slice A' (n + m) c')) w') :
    wpList Try.prog ops Q (o :: rest) a w := by
  refine wpList_append hgd s x 26 ho base 5 (.int .u8 0) 1 1 Try.underlying26 infoU8 rfl (by decide) v n (u8s xs) hs hown A m c (u8s l) hx (by simp [hl]) hr.srcAll (u8s_one _) (by unfold maxLen; omega) (by omega) hbase ?_
  intro v' w' ho' _ hg hb
  rw [← u8s_append] at ho'
  obtain ⟨A1, c1, rfl, ho2⟩ := own_form ho'
  have e : (xs ++ l).length = n + m := by have := ho'.1; simp at this; simp [hl]; omega
  rw [e] at ho2 hb ⊢
  exact h A1 c1 w' ho2 ((Fr.refl _ _).grown hg (fun k hk => .inl (by simp [hk]))) hb

/-- the same inside a region that draws its order -/
theorem step_appU8 {ops : Array Oper} {o : Oper} {a : Act} {w : World} {K : Act → World → Prop} {Q : Exit → Act → World → Prop} {E : Prop} (hgd : o.guard = none) (s x : Operand)
    (ho : o.op = .call { callee := .builtin .append, args := #[s, x], argTypes := #[26, 26] })
    (base : Nat) (v : Value) (n : Nat) (xs : List UInt8) (hs : a.eval s = v) (hown : w.ownsRow base 5 1 v n (u8s xs))
    (A : Option Addr) (m c : Nat) (l : List UInt8) (hx : a.eval x = .slice A m c) (hl : l.length = m) (hr : Rd w A l) (hbd : n + m ≤ 1000000000) (hbase : base ≤ w.heap.size)
    (h : ∀ A' c' w', w'.ownsRow base 5 1 (.slice A' (n + m) c') (n + m) (u8s (xs ++ l)) → Fr v.ownBlock.toList w w' → ((Value.slice A' (n + m) c').ownBlock = v.ownBlock ∨ (Value.slice A' (n + m) c').ownBlock = some w.heap.size) → K (a.put o.dst (.slice A' (n + m) c')) w') :
    if Region.wanted o (yielded ops a.tmps) = true then Oper.wp Try.prog o a w K Q else E := by
  refine step_append (by simp [Region.wanted, hgd]) s x 26 ho base 5 (.int .u8 0) 1 1 Try.underlying26 infoU8 rfl (by decide) v n (u8s xs) hs hown A m c (u8s l) hx (by simp [hl]) hr.srcAll (u8s_one _) (by unfold maxLen; omega) (by omega) hbase ?_
  intro v' w' ho' _ hg hb
  rw [← u8s_append] at ho'
  obtain ⟨A1, c1, rfl, ho2⟩ := own_form ho'
  have e : (xs ++ l).length = n + m := by have := ho'.1; simp at this; simp [hl]; omega
  rw [e] at ho2 hb ⊢
  exact h A1 c1 w' ho2 ((Fr.refl _ _).grown hg (fun k hk => .inl (by simp [hk]))) hb

/-- a slice's bytes as a text -/
theorem conv_n {w : World} {A : Option Addr} {l : List UInt8} {m c : Nat} (hm : l.length = m) (h : Rd w A l) : (convert 26 9 (.slice A m c)).run Try.prog w = .ok (.string (str l)) w := by
  subst hm
  exact run_conv_str Try.underlying26 Try.underlying5 Try.underlying9 h c
/-- the bytes told, as a text, whatever older blocks turn -/
def BytesC (w0 w : World) (m : Nat) (l : List UInt8) (e : Ending) (w' : World) : Prop :=
  ∃ A c, e = .returned (.slice A m c) ∧ (∀ (S : List Nat) w2, (∀ x ∈ S, x < w0.heap.size) → Fr S w' w2 → (convert 26 9 (.slice A m c)).run Try.prog w2 = .ok (.string (str l)) w2) ∧ Fr [] w w'
theorem bytes_c (w0 w : World) (hw : w0.heap.size ≤ w.heap.size) (p : Nat) (ob : List Nat) (bs : List UInt8) (h : IsW w p ob bs 0) (m : Nat) (hm : bs.length = m) (hbd : m ≤ 1000000000) :
    Calls Try.prog 64 #[.pointer (some ⟨p, 0, none⟩)] w (BytesC w0 w m bs) := by
  refine (bytes_ok w p ob bs h m hm hbd).mono ?_
  rintro e w' ⟨A, c, rfl, _, hr, hb, _, hf⟩
  exact ⟨A, c, rfl, fun S w2 hS h2 => conv_n hm (hr.fr h2 (fun b off hA hm => by have := hS b hm; have := (hb b off hA).1; omega)), hf⟩

end Go.Proofs.Ytmmjihkcofgmmaa
