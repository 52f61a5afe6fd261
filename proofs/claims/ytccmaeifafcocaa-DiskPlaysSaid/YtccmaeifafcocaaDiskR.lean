/- The document's disk: contracts. -/
import Derived.Test.YtccmaeifafcocaaDiskE
import Derived.StillTailTactics
namespace Go.Proofs.Ytccmaeifafcocaa
open Go.RowKit

/-- At block p lies the document's disk of n sectors, its bytes are block g. -/
structure RDisk (w : World) (p g n : Nat) (s : DS) : Prop where
  head : Blk w p 38 #[.slice (some ⟨g, 0, none⟩) (64 * n) (64 * n), .int .i64 (n : Int), .bool s.dead, .int .i64 s.fuse, .int .i64 (s.torn : Int), .int .i64 (s.writes : Int)]
  row : Blk w g 5 (u8s s.bs).toArray
  len : s.bs.length = 64 * n
  few : n ≤ 4096
  fuse : -1 ≤ s.fuse ∧ s.fuse ≤ 9223372036854775807
  torn : s.torn ≤ 64
theorem RDisk.ne {w : World} {p g n : Nat} {s : DS} (h : RDisk w p g n s) : g ≠ p := h.row.ne_ h.head (by decide)
theorem RDisk.fr {w w' : World} {p g n : Nat} {s : DS} {S : List Nat} (h : RDisk w p g n s) (hf : Fr S w w') (hp : p ∉ S) (hg : g ∉ S) : RDisk w' p g n s :=
  ⟨h.head.fr hf hp, h.row.fr hf hg, h.len, h.few, h.fuse, h.torn⟩
theorem RDisk.lt {w : World} {p g n : Nat} {s : DS} (h : RDisk w p g n s) : p < w.heap.size ∧ g < w.heap.size := ⟨h.head.lt, h.row.lt⟩

def RNew (w : World) (n : Nat) (e : Ending) (w' : World) : Prop :=
  e = .returned (.pointer (some ⟨w.heap.size + 1, 0, none⟩)) ∧ RDisk w' (w.heap.size + 1) w.heap.size n (DS.new n) ∧ Fr [] w w'

theorem rnew_calls (w : World) (n : Nat) (h : n ≤ 4096) : Calls Try.prog 15 #[.int .i64 (n : Int)] w (RNew w n) := by
  have hmk : ∀ w : World, (Instr.makeSlice 28 (.int .i64 (64 * (n : Int))) (.int .i64 (64 * (n : Int)))).run Try.prog w = .ok (.slice (some ⟨w.heap.size, 0, none⟩) (64 * n) (64 * n)) (w.alloc (.cells (zs (64 * n)).toArray 5)) := fun w => by
    have := run_make_n (P := Try.prog) 28 5 (.int .u8 0) 1 1 Try.underlying28 infoU8 (64 * n) (by omega) (by omega) w
    rw [show (Value.int IntKind.u8 0).cells = #[.int .u8 0] from rfl, madeCells_one] at this
    simpa using this
  go_enter Try.func15, Try.ntmps15
  go_wp2
  go_ret
  have b1 := Blk.new w 5 (zs (64 * n)).toArray
  have b2 := Blk.new (w.alloc (.cells (zs (64 * n)).toArray 5)) 38 #[.slice (some ⟨w.heap.size, 0, none⟩) (64 * n) (64 * n), .int .i64 (n : Int), .bool false, .int .i64 (-1), .int .i64 0, .int .i64 0]
  have e : (w.alloc (.cells (zs (64 * n)).toArray 5)).heap.size = w.heap.size + 1 := by simp
  rw [e] at b2
  exact ⟨rfl, ⟨b2, (b1.alloc _), by simp [DS.new], h, by simp [DS.new], by simp [DS.new]⟩, ((Fr.refl [] w).alloc _).alloc _⟩

def RPost (p g n : Nat) (v : Value) (s' : DS) (w : World) (e : Ending) (w' : World) : Prop :=
  e = .returned v ∧ RDisk w' p g n s' ∧ Fr [p, g] w w'

theorem rwake_calls (w : World) (p g n : Nat) (s : DS) (h : RDisk w p g n s) :
    Calls Try.prog 19 #[.pointer (some ⟨p, 0, none⟩)] w (RPost p g n (.tuple #[]) { s with dead := false, fuse := -1 } w) := by
  have h2 : w.cell? ⟨p, 2, none⟩ = some (.bool s.dead) := by rw [h.head.cell]; rfl
  have h3 : w.cell? ⟨p, 3, none⟩ = some (.int .i64 s.fuse) := by rw [h.head.cell]; rfl
  have hz : ∀ j, w.frozen? ⟨p, j, none⟩ = false := h.head.frozen
  have H := Lib.hid h
  clear h
  go_enter Try.func19, Try.ntmps19
  go_wp2
  go_end0
  have hb := (H.out.head.set_ 2 (.bool false)).set_ 3 (.int .i64 (-1))
  have hf := ((Fr.refl [p, g] w).setCell (p := ⟨p, 2, none⟩) (.inl (by simp)) (.bool false)).setCell (p := ⟨p, 3, none⟩) (.inl (by simp)) (.int .i64 (-1))
  exact ⟨rfl, ⟨by simpa using hb, (H.out.row.far (p := ⟨p, 2, none⟩) H.out.ne _).far (p := ⟨p, 3, none⟩) H.out.ne _, H.out.len, H.out.few, by simp, H.out.torn⟩, hf⟩

theorem rfuse_close {w w' : World} {p g n : Nat} {s : DS} (h : RDisk w p g n s) {k t : Int} (hk : k ≤ 9223372036854775807)
    (hb : Blk w' p 38 #[.slice (some ⟨g, 0, none⟩) (64 * n) (64 * n), .int .i64 (n : Int), .bool s.dead, .int .i64 (max k (-1)), .int .i64 (min (max t 0) 64), .int .i64 (s.writes : Int)]) (hf : Fr [p] w w') :
    RPost p g n (.tuple #[]) { s with fuse := max k (-1), torn := (min (max t 0) 64).toNat } w (.returned (.tuple #[])) w' := by
  have e : (((min (max t 0) 64).toNat : Nat) : Int) = min (max t 0) 64 := by omega
  exact ⟨rfl, ⟨by simpa [e] using hb, h.row.fr hf (by simpa using h.ne), h.len, h.few, by simp; omega, by simp; omega⟩, hf.mono (fun x hx => .inl (by simp at hx; simp [hx]))⟩

theorem rfuse_calls (w : World) (p g n : Nat) (s : DS) (h : RDisk w p g n s) (k t : Int) (hk : k ≤ 9223372036854775807) :
    Calls Try.prog 17 #[.pointer (some ⟨p, 0, none⟩), .int .i64 k, .int .i64 t] w (RPost p g n (.tuple #[]) { s with fuse := max k (-1), torn := (min (max t 0) 64).toNat } w) := by
  have h3 : w.cell? ⟨p, 3, none⟩ = some (.int .i64 s.fuse) := by rw [h.head.cell]; rfl
  have h4 : w.cell? ⟨p, 4, none⟩ = some (.int .i64 (s.torn : Int)) := by rw [h.head.cell]; rfl
  have hz : ∀ j, w.frozen? ⟨p, j, none⟩ = false := h.head.frozen
  have H := Lib.hid h
  have hs : ∀ (w w' : World) (i : Nat) (v : Value), Fr [p] w w' → Fr [p] w (w'.setCell ⟨p, i, none⟩ v) := fun _ _ _ _ h => h.setCell (.inl (by simp)) _
  have HS := Lib.hid hs
  clear h hs
  by_cases hk0 : k < 0
  · by_cases ht0 : t < 0
    · go_enter Try.func17, Try.ntmps17
      go_wp2
      go_end0
      have hb := ((((H.out.head.set_ 3 (.int .i64 k)).set_ 3 (.int .i64 (-1))).set_ 4 (.int .i64 t)).set_ 4 (.int .i64 0))
      exact rfuse_close H.out hk (by rw [show max k (-1) = -1 by omega, show min (max t 0) 64 = 0 by omega]; simpa using hb) (HS.out _ _ _ _ (HS.out _ _ _ _ (HS.out _ _ _ _ (HS.out _ _ _ _ (Fr.refl _ _)))))
    · by_cases ht1 : 64 < t
      · go_enter Try.func17, Try.ntmps17
        go_wp2
        go_end0
        have hb := ((((H.out.head.set_ 3 (.int .i64 k)).set_ 3 (.int .i64 (-1))).set_ 4 (.int .i64 t)).set_ 4 (.int .i64 64))
        exact rfuse_close H.out hk (by rw [show max k (-1) = -1 by omega, show min (max t 0) 64 = 64 by omega]; simpa using hb) (HS.out _ _ _ _ (HS.out _ _ _ _ (HS.out _ _ _ _ (HS.out _ _ _ _ (Fr.refl _ _)))))
      · go_enter Try.func17, Try.ntmps17
        go_wp2
        go_end0
        have hb := (((H.out.head.set_ 3 (.int .i64 k)).set_ 3 (.int .i64 (-1))).set_ 4 (.int .i64 t))
        exact rfuse_close H.out hk (by rw [show max k (-1) = -1 by omega, show min (max t 0) 64 = t by omega]; simpa using hb) (HS.out _ _ _ _ (HS.out _ _ _ _ (HS.out _ _ _ _ (Fr.refl _ _))))
  · by_cases ht0 : t < 0
    · go_enter Try.func17, Try.ntmps17
      go_wp2
      go_end0
      have hb := (((H.out.head.set_ 3 (.int .i64 k)).set_ 4 (.int .i64 t)).set_ 4 (.int .i64 0))
      exact rfuse_close H.out hk (by rw [show max k (-1) = k by omega, show min (max t 0) 64 = 0 by omega]; simpa using hb) (HS.out _ _ _ _ (HS.out _ _ _ _ (HS.out _ _ _ _ (Fr.refl _ _))))
    · by_cases ht1 : 64 < t
      · go_enter Try.func17, Try.ntmps17
        go_wp2
        go_end0
        have hb := (((H.out.head.set_ 3 (.int .i64 k)).set_ 4 (.int .i64 t)).set_ 4 (.int .i64 64))
        exact rfuse_close H.out hk (by rw [show max k (-1) = k by omega, show min (max t 0) 64 = 64 by omega]; simpa using hb) (HS.out _ _ _ _ (HS.out _ _ _ _ (HS.out _ _ _ _ (Fr.refl _ _))))
      · go_enter Try.func17, Try.ntmps17
        go_wp2
        go_end0
        have hb := ((H.out.head.set_ 3 (.int .i64 k)).set_ 4 (.int .i64 t))
        exact rfuse_close H.out hk (by rw [show max k (-1) = k by omega, show min (max t 0) 64 = t by omega]; simpa using hb) (HS.out _ _ _ _ (HS.out _ _ _ _ (Fr.refl _ _)))

/-- what the document's read tells: a piece of its bytes -/
def RRead (w : World) (r : List UInt8 × Int) (e : Ending) (w' : World) : Prop :=
  ∃ A m c, e = .returned (.tuple #[.slice A m c, .int .i64 r.2]) ∧ r.1.length = m ∧ Rd w' A r.1 ∧ (∀ b off, A = some ⟨b, off, none⟩ → b < w.heap.size) ∧ Fr [] w w'
theorem rread_calls (w : World) (p g n : Nat) (s : DS) (h : RDisk w p g n s) (i : Int) (hi1 : -9223372036854775808 ≤ i) (hi2 : i ≤ 9223372036854775807) :
    Calls Try.prog 21 #[.pointer (some ⟨p, 0, none⟩), .int .i64 i] w (RRead w (s.rd n i)) := by
  have h0 : w.cell? ⟨p, 0, none⟩ = some (.slice (some ⟨g, 0, none⟩) (64 * n) (64 * n)) := by rw [h.head.cell]; rfl
  have h1 : w.cell? ⟨p, 1, none⟩ = some (.int .i64 (n : Int)) := by rw [h.head.cell]; rfl
  have h2 : w.cell? ⟨p, 2, none⟩ = some (.bool s.dead) := by rw [h.head.cell]; rfl
  have few := h.few
  have H := Lib.hid h
  clear h
  by_cases hd : s.dead = true
  · have e : s.rd n i = ([], 30) := by simp [DS.rd, hd]
    rw [e]; rw [hd] at h2
    go_enter Try.func21, Try.ntmps21
    go_wp2
    go_ret2
    exact ⟨none, 0, 0, rfl, rfl, fun h => by simp at h, by simp, Fr.refl _ _⟩
  · have hd : s.dead = false := by simpa using hd
    by_cases h3 : i < 0
    · have e : s.rd n i = ([], 9) := by simp [DS.rd, hd, h3]
      rw [e]; rw [hd] at h2
      go_enter Try.func21, Try.ntmps21
      go_wp2
      go_ret2
      exact ⟨none, 0, 0, rfl, rfl, fun h => by simp at h, by simp, Fr.refl _ _⟩
    · by_cases h4 : (n : Int) ≤ i
      · have e : s.rd n i = ([], 9) := by simp [DS.rd, hd, h4]
        have h3' : 0 ≤ i := by omega
        rw [e]; rw [hd] at h2
        go_enter Try.func21, Try.ntmps21
        go_wp2
        go_ret2
        exact ⟨none, 0, 0, rfl, rfl, fun h => by simp at h, by simp, Fr.refl _ _⟩
      · obtain ⟨j, rfl⟩ := Int.eq_ofNat_of_zero_le (show 0 ≤ i by omega)
        have e : s.rd n j = ((s.bs.drop (j * 64)).take 64, 0) := by
          unfold DS.rd
          rw [hd, if_neg (by simp), if_neg (by omega)]
          simp
        have h3' : (0 : Int) ≤ j := by omega
        have h4' : (j : Int) < n := by omega
        rw [e]; rw [hd] at h2
        clear h3 h4
        go_enter Try.func21, Try.ntmps21
        go_wp2
        go_ret2
        have hl : ((s.bs.drop (j * 64)).take 64).length = 64 * j + 64 - 64 * j := by
          have := H.out.len
          simp
          omega
        refine ⟨_, _, _, rfl, hl, fun _ => ⟨g, 64 * j, rfl, fun k x hx => ?_⟩, fun b off hA => by simp at hA; have := H.out.lt.2; omega, Fr.refl _ _⟩
        rw [H.out.row.cell, List.getElem?_toArray, u8s_get]
        rw [List.getElem?_take] at hx
        split at hx
        · rw [List.getElem?_drop] at hx
          rw [Nat.mul_comm 64 j, hx]; rfl
        · simp at hx

theorem rwrite_close {w w' : World} {p g n i : Nat} {s : DS} {l : List UInt8} (h : RDisk w p g n s) (hi : i < n) (hl : l.length = 64) (fuse' : Int) (dead' : Bool) (many : Nat) (hm : many ≤ 64) (hf1 : -1 ≤ fuse' ∧ fuse' ≤ 9223372036854775807)
    (hb : Blk w' p 38 #[.slice (some ⟨g, 0, none⟩) (64 * n) (64 * n), .int .i64 (n : Int), .bool dead', .int .i64 fuse', .int .i64 (s.torn : Int), .int .i64 ((s.writes + 1 : Nat) : Int)])
    (hr : Blk w' g 5 (u8s (splice s.bs (i * 64) (l.take many))).toArray) (hf : Fr [p, g] w w') {v : Int} :
    RPost p g n (.int .i64 v) { bs := splice s.bs (i * 64) (l.take many), dead := dead', fuse := fuse', torn := s.torn, writes := s.writes + 1 } w (.returned (.int .i64 v)) w' := by
  refine ⟨rfl, ⟨hb, hr, ?_, h.few, hf1, h.torn⟩, hf⟩
  have := h.len
  simp [splice]
  omega

theorem rwrite_none (w : World) (p g n : Nat) (s : DS) (h : RDisk w p g n s) (i : Int) (A : Option Addr) (m c : Nat) (l : List UInt8) (hm : l.length = m) (x : Int)
    (hx : s.wr n i l = (s, x)) (hno : s.dead = true ∨ (s.dead = false ∧ (i < 0 ∨ (n : Int) ≤ i)) ∨ (s.dead = false ∧ 0 ≤ i ∧ i < n ∧ m ≠ 64)) :
    Calls Try.prog 22 #[.pointer (some ⟨p, 0, none⟩), .int .i64 i, .slice A m c] w (RPost p g n (.int .i64 x) s w) := by
  have h1 : w.cell? ⟨p, 1, none⟩ = some (.int .i64 (n : Int)) := by rw [h.head.cell]; rfl
  have h2 : w.cell? ⟨p, 2, none⟩ = some (.bool s.dead) := by rw [h.head.cell]; rfl
  have H := Lib.hid h
  have hx' : (s.wr n i l).2 = x := by rw [hx]
  unfold DS.wr at hx'
  clear h hx
  rcases hno with hd | ⟨hd, hi⟩ | ⟨hd, h3, h4, h5⟩
  · rw [hd] at h2 hx'
    obtain rfl : (30 : Int) = x := hx'
    go_enter Try.func22, Try.ntmps22
    go_wp2
    go_ret
    exact ⟨rfl, H.out, Fr.refl _ _⟩
  · rw [hd, if_neg (by simp), if_pos hi] at hx'
    obtain rfl : (9 : Int) = x := hx'
    rw [hd] at h2
    by_cases h3 : i < 0
    · clear hi
      go_enter Try.func22, Try.ntmps22
      go_wp2
      go_ret
      exact ⟨rfl, H.out, Fr.refl _ _⟩
    · have h3' : 0 ≤ i := by omega
      have h4' : (n : Int) ≤ i := by omega
      clear hi h3
      go_enter Try.func22, Try.ntmps22
      go_wp2
      go_ret
      exact ⟨rfl, H.out, Fr.refl _ _⟩
  · rw [hd, if_neg (by simp), if_neg (by omega)] at hx'
    unfold DS.write at hx'
    rw [if_pos (by omega)] at hx'
    obtain rfl : (1 : Int) = x := hx'
    rw [hd] at h2
    have h64b : ((m : Int) != 64) = true := by rw [bne_iff_ne]; omega
    clear h5 hm
    go_enter Try.func22, Try.ntmps22
    go_wp2
    go_ret
    exact ⟨rfl, H.out, Fr.refl _ _⟩

/-- the bytes behind k rounds -/
theorem splice_take_succ (bs l : List UInt8) (o k : Nat) (x : UInt8) (hx : l[k]? = some x) (hb : o + k < bs.length) : splice bs o (l.take (k + 1)) = (splice bs o (l.take k)).set (o + k) x := by
  obtain ⟨h1, h2⟩ := List.getElem?_eq_some_iff.1 hx
  apply List.ext_getElem?
  intro j
  rw [List.getElem?_set]
  unfold splice
  simp only [List.getElem?_append, List.length_take, List.getElem?_take, List.getElem?_drop, Nat.min_eq_left (show o ≤ bs.length by omega), Nat.min_eq_left (show k + 1 ≤ l.length by omega), Nat.min_eq_left (show k ≤ l.length by omega), List.length_append, List.length_drop]
  by_cases h3 : j < o
  · simp [h3, show ¬ o + k = j by omega]
  · by_cases h4 : j = o + k
    · subst h4
      simp [show ¬ o + k < o by omega, show o + k - o = k by omega, hx]
      omega
    · by_cases h5 : j - o < k
      · simp [h3, h5, show ¬ o + k = j by omega, show j - o < k + 1 by omega]
      · simp [h3, h5, show ¬ o + k = j by omega, show ¬ j - o < k + 1 by omega]
        congr 1
        omega

set_option maxHeartbeats 1000000 in
theorem rwrite_loop (w : World) (p g n : Nat) (s : DS) (h : RDisk w p g n s) (i : Nat) (hd : s.dead = false) (hi : i < n) (b off c : Nat) (l : List UInt8) (hl : l.length = 64) (hA : Rd w (some ⟨b, off, none⟩) l) (hbp : b ≠ p ∧ b ≠ g) (hw : s.writes < 1000000) :
    Calls Try.prog 22 #[.pointer (some ⟨p, 0, none⟩), .int .i64 (i : Int), .slice (some ⟨b, off, none⟩) 64 c] w (RPost p g n (.int .i64 (s.wr n i l).2) (s.wr n i l).1 w) := by
  have h0 : w.cell? ⟨p, 0, none⟩ = some (.slice (some ⟨g, 0, none⟩) (64 * n) (64 * n)) := by rw [h.head.cell]; rfl
  have h1 : w.cell? ⟨p, 1, none⟩ = some (.int .i64 (n : Int)) := by rw [h.head.cell]; rfl
  have h2 : w.cell? ⟨p, 2, none⟩ = some (.bool false) := by rw [h.head.cell, hd]; rfl
  have h3 : w.cell? ⟨p, 3, none⟩ = some (.int .i64 s.fuse) := by rw [h.head.cell]; rfl
  have h4 : w.cell? ⟨p, 4, none⟩ = some (.int .i64 (s.torn : Int)) := by rw [h.head.cell]; rfl
  have h5 : w.cell? ⟨p, 5, none⟩ = some (.int .i64 (s.writes : Int)) := by rw [h.head.cell]; rfl
  have hz : ∀ j, w.frozen? ⟨p, j, none⟩ = false := h.head.frozen
  have few := h.few
  have hin : (i : Int) < n := by omega
  have hi0 : (0 : Int) ≤ i := by omega
  have q1 : decide (n ≤ i) = false := by simp; omega
  have q2 : decide ((n : Int) ≤ (i : Int)) = false := by simp; omega
  have H := Lib.hid h
  have HA := Lib.hid hA
  clear h hA
  by_cases hf : s.fuse = 0
  · rw [hf] at h3
    have ht := H.out.torn
    go_enter Try.func22, Try.ntmps22
    go_wp2
    go_loopg [8] s.torn (fun gg u wr => ∃ k : Nat, k ≤ s.torn ∧ gg = s.torn - k ∧ u = .int .i64 k ∧ Blk wr g 5 (u8s (splice s.bs (i * 64) (l.take k))).toArray ∧ Blk wr p 38 #[.slice (some ⟨g, 0, none⟩) (64 * n) (64 * n), .int .i64 (n : Int), .bool false, .int .i64 0, .int .i64 (s.torn : Int), .int .i64 ((s.writes : Int) + 1)] ∧ Fr [p, g] w wr)
    case atStart =>
      have hb := H.out.head.set_ 5 (.int .i64 ((s.writes : Int) + 1))
      refine ⟨0, by omega, by omega, rfl, ?_, by simpa [hd, hf] using hb, (Fr.refl _ _).setCell (.inl (by simp)) _⟩
      have : splice s.bs (i * 64) (l.take 0) = s.bs := by simp [splice]
      rw [this]
      exact H.out.row.far (p := ⟨p, 5, none⟩) H.out.ne _
    case round =>
      obtain ⟨k, hk, rfl, rfl, hb, hh, hfr⟩ := hrel
      have d0 : wr.cell? ⟨p, 0, none⟩ = some (.slice (some ⟨g, 0, none⟩) (64 * n) (64 * n)) := by rw [hh.cell]; rfl
      have d3 : wr.cell? ⟨p, 3, none⟩ = some (.int .i64 0) := by rw [hh.cell]; rfl
      have d2 : wr.cell? ⟨p, 2, none⟩ = some (.bool false) := by rw [hh.cell]; rfl
      have zp := hh.frozen
      have HB := Lib.hid hb; have HH := Lib.hid hh; have HF := Lib.hid hfr
      by_cases hlt : k < s.torn
      · obtain ⟨x, hx⟩ : ∃ x, l[k]? = some x := ⟨l[k], by simp⟩
        have c1 : wr.cell? ⟨b, off + k, none⟩ = some (u8v x) := by
          obtain ⟨b', off', e, hc⟩ := HA.out.fr hfr (fun b' off' e => by simp at e; simp; omega) (by omega)
          cases e
          exact hc k x hx
        have hlen : (splice s.bs (i * 64) (l.take k)).length = 64 * n := by have := H.out.len; simp [splice]; omega
        obtain ⟨y, hy⟩ : ∃ y, (splice s.bs (i * 64) (l.take k))[64 * i + k]? = some y := ⟨(splice s.bs (i * 64) (l.take k))[64 * i + k]'(by rw [hlen]; omega), by simp⟩
        have c2 : wr.cell? ⟨g, 64 * i + k, none⟩ = some (u8v y) := by rw [hb.cell, List.getElem?_toArray, u8s_get, hy]; rfl
        have zg := hb.frozen (64 * i + k)
        have k1 : (k : Int) < 64 := by omega
        have k2 : (64 * (i : Int) + k) < 64 * (n : Int) := by omega
        have hsn := splice_take_succ s.bs l (i * 64) k x hx (by have := H.out.len; omega)
        have HSN := Lib.hid hsn
        clear hb hh hfr hx hy hlen hsn
        go_wp2
        go_still_tail 12, (by kernel_rfl)
        change wpList _ _ _ _ _ wr.drew
        go_wp2
        go_roundg (s.torn - (k + 1))
        case measure => omega
        case rel =>
          have hb2 := HB.out.set_ (64 * i + k) (u8v x)
          have e : (u8s (splice s.bs (i * 64) (l.take k))).toArray.setIfInBounds (64 * i + k) (u8v x) = (u8s (splice s.bs (i * 64) (l.take (k + 1)))).toArray := by
            rw [HSN.out, Nat.mul_comm i 64]; simp [u8s, List.map_set]
          rw [e] at hb2
          exact ⟨k + 1, by omega, rfl, by go_num, hb2.drew, (HH.out.far (p := ⟨g, 64 * i + k, none⟩) (fun h => H.out.ne h.symm) _).drew, (HF.out.setCell (.inl (by simp)) _).drew⟩
      · obtain rfl : k = s.torn := by omega
        have hres : s.wr n i l = ({ bs := splice s.bs (i * 64) (l.take s.torn), dead := true, fuse := -1, torn := s.torn, writes := s.writes + 1 }, 30) := by
          unfold DS.wr DS.write
          rw [hd, if_neg (by simp), if_neg (by omega), if_neg (by omega), if_pos hf]
          simp
        have HRES := Lib.hid hres
        clear hb hh hfr hres
        go_wp2
        go_ret
        rw [HRES.out]
        have hh2 := (HH.out.set_ 2 (.bool true)).set_ 3 (.int .i64 (-1))
        exact rwrite_close (v := 30) H.out hi hl (-1) true s.torn ht (by omega) (by simpa using hh2) ((HB.out.far (p := ⟨p, 2, none⟩) H.out.ne _).far (p := ⟨p, 3, none⟩) H.out.ne _) ((HF.out.setCell (p := ⟨p, 2, none⟩) (.inl (by simp)) _).setCell (p := ⟨p, 3, none⟩) (.inl (by simp)) _)
  · have hfb : (s.fuse == 0) = false := by rw [beq_eq_false_iff_ne]; exact hf
    go_enter Try.func22, Try.ntmps22
    go_wp2
    go_loopg [8] 64 (fun gg u wr => ∃ k : Nat, k ≤ 64 ∧ gg = 64 - k ∧ u = .int .i64 k ∧ Blk wr g 5 (u8s (splice s.bs (i * 64) (l.take k))).toArray ∧ Blk wr p 38 #[.slice (some ⟨g, 0, none⟩) (64 * n) (64 * n), .int .i64 (n : Int), .bool false, .int .i64 s.fuse, .int .i64 (s.torn : Int), .int .i64 ((s.writes : Int) + 1)] ∧ Fr [p, g] w wr)
    case atStart =>
      have hb := H.out.head.set_ 5 (.int .i64 ((s.writes : Int) + 1))
      refine ⟨0, by omega, by omega, rfl, ?_, by simpa [hd] using hb, (Fr.refl _ _).setCell (.inl (by simp)) _⟩
      have : splice s.bs (i * 64) (l.take 0) = s.bs := by simp [splice]
      rw [this]
      exact H.out.row.far (p := ⟨p, 5, none⟩) H.out.ne _
    case round =>
      obtain ⟨k, hk, rfl, rfl, hb, hh, hfr⟩ := hrel
      have d0 : wr.cell? ⟨p, 0, none⟩ = some (.slice (some ⟨g, 0, none⟩) (64 * n) (64 * n)) := by rw [hh.cell]; rfl
      have d3 : wr.cell? ⟨p, 3, none⟩ = some (.int .i64 s.fuse) := by rw [hh.cell]; rfl
      have d2 : wr.cell? ⟨p, 2, none⟩ = some (.bool false) := by rw [hh.cell]; rfl
      have zp := hh.frozen
      have HB := Lib.hid hb; have HH := Lib.hid hh; have HF := Lib.hid hfr
      by_cases hlt : k < 64
      · obtain ⟨x, hx⟩ : ∃ x, l[k]? = some x := ⟨l[k], by simp⟩
        have c1 : wr.cell? ⟨b, off + k, none⟩ = some (u8v x) := by
          obtain ⟨b', off', e, hc⟩ := HA.out.fr hfr (fun b' off' e => by simp at e; simp; omega) (by omega)
          cases e
          exact hc k x hx
        have hlen : (splice s.bs (i * 64) (l.take k)).length = 64 * n := by have := H.out.len; simp [splice]; omega
        obtain ⟨y, hy⟩ : ∃ y, (splice s.bs (i * 64) (l.take k))[64 * i + k]? = some y := ⟨(splice s.bs (i * 64) (l.take k))[64 * i + k]'(by rw [hlen]; omega), by simp⟩
        have c2 : wr.cell? ⟨g, 64 * i + k, none⟩ = some (u8v y) := by rw [hb.cell, List.getElem?_toArray, u8s_get, hy]; rfl
        have zg := hb.frozen (64 * i + k)
        have k1 : (k : Int) < 64 := by omega
        have k2 : (64 * (i : Int) + k) < 64 * (n : Int) := by omega
        have hsn := splice_take_succ s.bs l (i * 64) k x hx (by have := H.out.len; omega)
        have HSN := Lib.hid hsn
        clear hb hh hfr hx hy hlen hsn
        go_wp2
        go_still_tail 12, (by kernel_rfl)
        change wpList _ _ _ _ _ wr.drew
        go_wp2
        go_roundg (64 - (k + 1))
        case measure => omega
        case rel =>
          have hb2 := HB.out.set_ (64 * i + k) (u8v x)
          have e : (u8s (splice s.bs (i * 64) (l.take k))).toArray.setIfInBounds (64 * i + k) (u8v x) = (u8s (splice s.bs (i * 64) (l.take (k + 1)))).toArray := by
            rw [HSN.out, Nat.mul_comm i 64]; simp [u8s, List.map_set]
          rw [e] at hb2
          exact ⟨k + 1, by omega, rfl, by go_num, hb2.drew, (HH.out.far (p := ⟨g, 64 * i + k, none⟩) (fun h => H.out.ne h.symm) _).drew, (HF.out.setCell (.inl (by simp)) _).drew⟩
      · obtain rfl : k = 64 := by omega
        have elt : l.take 64 = l := List.take_of_length_le (by omega)
        by_cases hf2 : 0 < s.fuse
        · have hres : s.wr n i l = ({ bs := splice s.bs (i * 64) (l.take 64), dead := false, fuse := s.fuse - 1, torn := s.torn, writes := s.writes + 1 }, 0) := by
            unfold DS.wr DS.write
            rw [hd, if_neg (by simp), if_neg (by omega), if_neg (by omega), if_neg hf, if_pos hf2, elt]
            simp
          have HRES := Lib.hid hres
          have hu := H.out.fuse
          clear hb hh hfr hres elt
          go_wp2
          go_ret
          rw [HRES.out]
          have hh2 := HH.out.set_ 3 (.int .i64 (s.fuse - 1))
          exact rwrite_close (v := 0) H.out hi hl (s.fuse - 1) false 64 (by omega) (by omega) (by simpa using hh2) (HB.out.far (p := ⟨p, 3, none⟩) H.out.ne _) (HF.out.setCell (p := ⟨p, 3, none⟩) (.inl (by simp)) _)
        · have hf3 : s.fuse ≤ 0 := by omega
          have hres : s.wr n i l = ({ bs := splice s.bs (i * 64) (l.take 64), dead := false, fuse := s.fuse, torn := s.torn, writes := s.writes + 1 }, 0) := by
            unfold DS.wr DS.write
            rw [hd, if_neg (by simp), if_neg (by omega), if_neg (by omega), if_neg hf, if_neg hf2, elt]
            simp
          have HRES := Lib.hid hres
          clear hb hh hfr hres elt hf2
          go_wp2
          go_ret
          rw [HRES.out]
          exact rwrite_close (v := 0) H.out hi hl s.fuse false 64 (by omega) H.out.fuse HH.out HB.out HF.out

/-- the document's write, whatever it is handed -/
theorem rwrite_any (w : World) (p g n : Nat) (s : DS) (h : RDisk w p g n s) (i : Int) (A : Option Addr) (m c : Nat) (l : List UInt8) (hm : l.length = m) (hA : Rd w A l) (hAp : ∀ b off, A = some ⟨b, off, none⟩ → b ≠ p ∧ b ≠ g) (hw : s.writes < 1000000) :
    Calls Try.prog 22 #[.pointer (some ⟨p, 0, none⟩), .int .i64 i, .slice A m c] w (RPost p g n (.int .i64 (s.wr n i l).2) (s.wr n i l).1 w) := by
  have hno : ∀ (x : Int), s.wr n i l = (s, x) → (s.dead = true ∨ (s.dead = false ∧ (i < 0 ∨ (n : Int) ≤ i)) ∨ (s.dead = false ∧ 0 ≤ i ∧ i < n ∧ m ≠ 64)) → Calls Try.prog 22 #[.pointer (some ⟨p, 0, none⟩), .int .i64 i, .slice A m c] w (RPost p g n (.int .i64 (s.wr n i l).2) (s.wr n i l).1 w) := fun x hx hc => by
    have := rwrite_none w p g n s h i A m c l hm x hx hc
    rw [hx]; exact this
  by_cases hd : s.dead = true
  · exact hno 30 (by unfold DS.wr; rw [if_pos hd]) (.inl hd)
  · have hd : s.dead = false := by simpa using hd
    by_cases hi : i < 0 ∨ (n : Int) ≤ i
    · exact hno 9 (by unfold DS.wr; rw [hd, if_neg (by simp), if_pos hi]) (.inr (.inl ⟨hd, hi⟩))
    · by_cases h64 : m = 64
      · subst h64
        obtain ⟨j, rfl⟩ := Int.eq_ofNat_of_zero_le (show 0 ≤ i by omega)
        obtain ⟨b, off, rfl, hc⟩ := hA (by omega)
        exact rwrite_loop w p g n s h j hd (by omega) b off c l hm (fun _ => ⟨b, off, rfl, hc⟩) (hAp b off rfl) hw
      · exact hno 1 (by unfold DS.wr DS.write; rw [hd, if_neg (by simp), if_neg hi, if_pos (by omega)]) (.inr (.inr ⟨hd, by omega, by omega, h64⟩))
end Go.Proofs.Ytccmaeifafcocaa
