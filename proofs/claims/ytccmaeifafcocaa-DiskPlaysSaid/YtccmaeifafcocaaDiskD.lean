/- The disk's functions: contracts. -/
import Derived.Test.YtccmaeifafcocaaDiskC
namespace Go.Proofs.Ytccmaeifafcocaa
open Go.RowKit

/-- a new disk -/
def DS.new (n : Nat) : DS := { bs := List.replicate (64 * n) 0, dead := false, fuse := -1, torn := 0, writes := 0 }
def NewDisk (w : World) (n : Nat) (e : Ending) (w' : World) : Prop :=
  e = .returned (.tuple #[.pointer (some ⟨w.heap.size + 1, 0, none⟩), .int .i64 0]) ∧ IsDisk w' (w.heap.size + 1) w.heap.size n n (DS.new n) ∧ Fr [] w w'

theorem new_bad (w : World) (i : Int) (h : i < 0 ∨ 4096 < i) :
    Calls Try.prog 8 #[.int .i64 i] w fun e w' => e = .returned (.tuple #[.pointer none, .int .i64 1]) ∧ w = w' := by
  by_cases h0 : i < 0
  · clear h
    go_enter Try.func8, Try.ntmps8
    go_wp2
    go_ret2
    exact ⟨rfl, rfl⟩
  · have h1 : 4096 < i := by omega
    clear h
    go_enter Try.func8, Try.ntmps8
    go_wp2
    go_ret2
    exact ⟨rfl, rfl⟩

theorem new_good (w : World) (n : Nat) (h : n ≤ 4096) :
    Calls Try.prog 8 #[.int .i64 (n : Int)] w (NewDisk w n) := by
  have hmk : ∀ w : World, (Instr.makeSlice 51 (.int .i64 (n : Int)) (.int .i64 (n : Int))).run Try.prog w = .ok (.slice (some ⟨w.heap.size, 0, none⟩) n n) (w.alloc (.cells (zs (n * 64)).toArray 58)) := fun w => by
    have := run_make_n (P := Try.prog) 51 58 (.agg (zs 64).toArray) 64 64 Try.underlying51 info58 n (by omega) (by omega) w
    rw [show (Value.agg (zs 64).toArray).cells = (zs 64).toArray from rfl, madeCells_agg _ _ (by omega)] at this
    exact this
  go_enter Try.func8, Try.ntmps8
  go_wp2
  go_ret2
  have hb := Blk.new w 58 (zs (n * 64)).toArray
  have hb2 := Blk.new (w.alloc (.cells (zs (n * 64)).toArray 58)) 53 #[.slice (some ⟨w.heap.size, 0, none⟩) n n, .bool false, .int .i64 (-1), .int .i64 0, .int .i64 0]
  refine ⟨rfl, ⟨by simpa [DS.new] using hb2, ⟨[], by simpa [DS.new, zs, Nat.mul_comm] using hb.alloc _⟩, by simp [DS.new], Nat.le_refl _, h, by simp [DS.new], by simp [DS.new]⟩, ((Fr.refl _ _).alloc _).alloc _⟩

/-- A row of bytes that the call has made. -/
def OwnBytes (w : World) (l : List UInt8) (e : Ending) (w' : World) : Prop :=
  ∃ A c, e = .returned (.slice A l.length c) ∧ w'.ownsRow w.heap.size 5 1 (.slice A l.length c) l.length (u8s l) ∧ Fr [] w w'
theorem OwnBytes.mk' {w w' : World} {l : List UInt8} {v : Value} {n : Nat} (h : w'.ownsRow w.heap.size 5 1 v n (u8s l)) (hf : Fr [] w w') : OwnBytes w l (.returned v) w' := by
  obtain ⟨A, c, rfl, h'⟩ := own_form h
  exact ⟨A, c, rfl, h', hf⟩

theorem clone_calls (w : World) (A : Option Addr) (c : Nat) (l : List UInt8) (hA : Rd w A l) (hn : l.length ≤ 1000000000) :
    Calls Try.prog 27 #[.slice A l.length c] w (OwnBytes w l) := by
  have heq : ∀ w : World, (binOp .eql 28 (.slice A l.length c) (.slice none 0 0)).run Try.prog w = .ok (.bool A.isNone) w := fun w => Lib.run_eql_slice_nil (P := Try.prog) w 28 5 A l.length c 0 0 Try.underlying28
  have HA := Lib.hid hA
  have HL := Lib.hid hn
  cases A with
  | none =>
    have hl : l = [] := by
      rcases Nat.eq_zero_or_pos l.length with h0 | h0
      · exact List.eq_nil_of_length_eq_zero h0
      · obtain ⟨_, _, hA, _⟩ := hA h0; cases hA
    have HE := Lib.hid hl
    clear hA hn hl
    go_enter Try.func27, Try.ntmps27
    go_wp2
    go_ret
    rw [HE.out]
    exact OwnBytes.mk' (n := 0) (World.ownsRow_nil _ _ _ _) (Fr.refl _ _)
  | some ad =>
    have HS := Lib.hid ((hA.fr ((Fr.refl [] w).alloc (.cells #[] 5)) (by simp)).srcAll)
    have HO := Lib.hid (World.ownsRow_made (base := w.heap.size) (e := 5) (size := 1) w #[] 0 (Nat.le_refl _) (by decide) (by simp))
    have h63 : 0 + l.length ≤ maxLen := by unfold maxLen; omega
    have hby : (0 + l.length) * 1 ≤ 140737488355328 := by omega
    have hlen : (u8s l).length = l.length * 1 := by simp
    clear hA hn
    go_enter Try.func27, Try.ntmps27
    go_wp2_with (at_builtin; refine wpList_append rfl (.tmp 5) (.tmp 6) 28 rfl w.heap.size 5 (.int .u8 0) 1 1 Try.underlying28 infoU8 rfl (by decide) (.slice (some ⟨w.heap.size, 0, none⟩) 0 0) 0 [] rfl HO.out _ _ _ (u8s l) rfl hlen HS.out (u8s_one _) h63 hby (by simp) ?_; intro v1 w1 ho1 hw1 hg1 hb1)
    go_ret
    exact OwnBytes.mk' (by simpa using ho1) (((Fr.refl [] w).alloc _).thenBelow hw1)

theorem clone_n (w : World) (A : Option Addr) (m c : Nat) (l : List UInt8) (hm : l.length = m) (hA : Rd w A l) (hn : m ≤ 1000000000) :
    Calls Try.prog 27 #[.slice A m c] w (OwnBytes w l) := by
  subst hm
  exact clone_calls w A c l hA hn

/-- the disk's bytes, one sector after the other -/
theorem all_calls (w : World) (p g n cap : Nat) (s : DS) (h : IsDisk w p g n cap s) :
    Calls Try.prog 11 #[.pointer (some ⟨p, 0, none⟩)] w (OwnBytes w s.bs) := by
  have h0 : w.cell? ⟨p, 0, none⟩ = some (.slice (some ⟨g, 0, none⟩) n cap) := by rw [h.head.cell]; rfl
  obtain ⟨rest, hr⟩ := h.rows
  have hl := h.len
  have few := h.few
  have HR := Lib.hid hr
  have HL := Lib.hid hl
  clear h hr hl
  go_enter Try.func11, Try.ntmps11
  go_wp2
  go_loopg [3, 11] n (fun gg v i wr => ∃ k : Nat, k ≤ n ∧ gg = n - k ∧ i = .int .i64 k ∧ wr.ownsRow w.heap.size 5 1 v (64 * k) (u8s (s.bs.take (64 * k))) ∧ Fr [] w wr)
  case atStart => exact ⟨0, by omega, by omega, rfl, World.ownsRow_nil _ _ _ _, Fr.refl _ _⟩
  case round =>
    obtain ⟨k, hk, rfl, rfl, ho, hf⟩ := hrel
    by_cases hlt : k < n
    · obtain ⟨sec, hsec⟩ : ∃ sec, sec = (s.bs.drop (64 * k)).take 64 := ⟨_, rfl⟩
      have hsl : sec.length = 64 := by rw [hsec]; have := HL.out; simp; omega
      have hbg : Blk wr g 58 (u8s s.bs ++ rest).toArray := HR.out.fr hf (by simp)
      have HC := Lib.hid (show ∀ j v, (u8s sec)[j]? = some v → wr.cell? ⟨g, k * 64 + j, none⟩ = some v from fun j v hv => by
        rw [hbg.cell]
        have hj : j < 64 := by have := (List.getElem?_eq_some_iff.1 hv).1; simp [hsl] at this; exact this
        rw [u8s_get, hsec, List.getElem?_take, if_pos hj, List.getElem?_drop] at hv
        have hlen := HL.out
        rw [List.getElem?_toArray, List.getElem?_append_left (by simp; omega), u8s_get, Nat.mul_comm k 64]
        exact hv)
      have HI := Lib.hid (show (Try.prog.info? 58).map (·.size) = some (u8s sec).length by rw [size58]; simp [hsl])
      have HB := Lib.hid (Blk.new wr 58 (zs 64).toArray)
      have HF2 := Lib.hid (show 0 + (u8s sec).length ≤ (zs 64).length by rw [zs_length]; simp [hsl])
      have hW := (Fr.refl ([] : List Nat) wr).alloc (.cells (zs 64).toArray 58)
      have hW2 : Fr [] wr ((wr.alloc (.cells (zs 64).toArray 58)).setRow wr.heap.size (splice (zs 64) 0 (u8s sec)).toArray) := hW.setRow (.inr (Nat.le_refl _)) _
      have hbx : Blk ((wr.alloc (.cells (zs 64).toArray 58)).setRow wr.heap.size (splice (zs 64) 0 (u8s sec)).toArray) wr.heap.size 58 (u8s sec).toArray := by
        have := HB.out.setRow_ (splice (zs 64) 0 (u8s sec)).toArray
        have e : splice (zs 64) 0 (u8s sec) = u8s sec := by
          unfold splice
          rw [List.drop_eq_nil_of_le (by rw [zs_length]; simp [hsl])]
          simp
        rwa [e] at this ⊢
      have HS := Lib.hid (show 0 < (u8s sec).length → ∃ ad, some (⟨wr.heap.size, 0, none⟩ : Addr) = some ad ∧ ∀ j v, (u8s sec)[j]? = some v → ((wr.alloc (.cells (zs 64).toArray 58)).setRow wr.heap.size (splice (zs 64) 0 (u8s sec)).toArray).cell? (ad.add j) = some v from
        fun _ => ⟨_, rfl, fun j v hv => by rw [addr_add0, hbx.cell, Nat.zero_add]; simpa using hv⟩)
      have HO := Lib.hid (own_fr ho hW2 (by simp))
      have HF := Lib.hid hf
      have hsz : w.heap.size ≤ ((wr.alloc (.cells (zs 64).toArray 58)).setRow wr.heap.size (splice (zs 64) 0 (u8s sec)).toArray).heap.size := by have := hf.size; simp [World.setRow]; omega
      have HW2 := Lib.hid hW2
      have HSEC := Lib.hid hsec
      have h63 : 64 * k + 64 ≤ maxLen := by unfold maxLen; omega
      have hby : (64 * k + 64) * 1 ≤ 140737488355328 := by omega
      have hlen : (u8s sec).length = 64 * 1 := by simp [hsl]
      clear ho hf hbg hsl hW hW2 hbx hsec
      go_wp2_with (first
        | (refine wpList_load_agg rfl 58 (.tmp 13) rfl g (k * 64) rfl (u8s sec) _ HC.out Try.underlying58 rfl HI.out ?_)
        | (refine wpList_alloc_agg rfl 58 rfl (zs 64).toArray zero58 ?_)
        | (refine wpList_store_agg rfl 58 (.tmp 5) (.tmp 14) rfl wr.heap.size 0 rfl (u8s sec) rfl (zs 64) 58 HB.out HF2.out (u8s_one _) HI.out ?_)
        | (at_builtin; refine wpList_append rfl (.tmp 15) (.tmp 16) 28 rfl w.heap.size 5 (.int .u8 0) 1 1 Try.underlying28 infoU8 rfl (by decide) u3 _ _ rfl HO.out _ _ _ (u8s sec) rfl hlen HS.out (u8s_one _) h63 hby hsz ?_; intro v1 w1 ho1 hw1 hg1 hb1))
      go_roundg (n - (k + 1))
      case measure => omega
      case rel =>
        refine ⟨k + 1, by omega, rfl, by go_num, ?_, ((HF.out.trans HW2.out)).thenBelow hw1⟩
        rw [HSEC.out] at ho1
        rw [show 64 * (k + 1) = 64 * k + 64 by omega, List.take_add, u8s_append]
        exact ho1
    · have : k = n := by omega
      subst this
      go_wp2
      go_ret
      rw [← HL.out, List.take_length] at ho
      exact OwnBytes.mk' ho hf

/-- what a read tells -/
def DS.rd (s : DS) (n : Nat) (i : Int) : List UInt8 × Int :=
  if s.dead then ([], 30) else if i < 0 ∨ (n : Int) ≤ i then ([], 9) else ((s.bs.drop (i.toNat * 64)).take 64, 0)
def ReadPost (w : World) (r : List UInt8 × Int) (e : Ending) (w' : World) : Prop :=
  ∃ A c, e = .returned (.tuple #[.slice A r.1.length c, .int .i64 r.2]) ∧ w'.ownsRow w.heap.size 5 1 (.slice A r.1.length c) r.1.length (u8s r.1) ∧ Fr [] w w'

theorem read_calls (w : World) (p g n cap : Nat) (s : DS) (h : IsDisk w p g n cap s) (i : Int) :
    Calls Try.prog 20 #[.pointer (some ⟨p, 0, none⟩), .int .i64 i] w (ReadPost w (s.rd n i)) := by
  have h0 : w.cell? ⟨p, 0, none⟩ = some (.slice (some ⟨g, 0, none⟩) n cap) := by rw [h.head.cell]; rfl
  have h1 : w.cell? ⟨p, 1, none⟩ = some (.bool s.dead) := by rw [h.head.cell]; rfl
  have few := h.few
  have c0 := fun o1 => cell_alloc h0 o1
  unfold DS.rd
  cases hd : s.dead with
  | true =>
    rw [hd] at h1
    have c1 := fun o1 => cell_alloc h1 o1
    clear h hd
    go_enter Try.func20, Try.ntmps20
    go_wp2
    go_ret2
    exact ⟨none, 0, rfl, World.ownsRow_nil _ _ _ _, (Fr.refl _ _).alloc _⟩
  | false =>
    rw [hd] at h1
    have c1 := fun o1 => cell_alloc h1 o1
    rw [if_neg (by simp)]
    by_cases hi : i < 0 ∨ (n : Int) ≤ i
    · rw [if_pos hi]
      by_cases hi0 : i < 0
      · clear h hd hi
        go_enter Try.func20, Try.ntmps20
        go_wp2
        go_ret2
        exact ⟨none, 0, rfl, World.ownsRow_nil _ _ _ _, (Fr.refl _ _).alloc _⟩
      · have hin : (n : Int) ≤ i := by omega
        clear h hd hi
        go_enter Try.func20, Try.ntmps20
        go_wp2
        go_ret2
        exact ⟨none, 0, rfl, World.ownsRow_nil _ _ _ _, (Fr.refl _ _).alloc _⟩
    · rw [if_neg hi]
      obtain ⟨k, rfl⟩ := Int.eq_ofNat_of_zero_le (show 0 ≤ i by omega)
      have hk : k < n := by omega
      obtain ⟨rest, hr⟩ := h.rows
      have hl := h.len
      obtain ⟨sec, hsec⟩ : ∃ sec, sec = (s.bs.drop (k * 64)).take 64 := ⟨_, rfl⟩
      have hsl : sec.length = 64 := by rw [hsec]; simp; omega
      have hA : Rd w (some ⟨g, k * 64, none⟩) sec := fun _ => ⟨g, k * 64, rfl, fun j x hx => by
        rw [hr.cell]
        have hj : j < 64 := by have := (List.getElem?_eq_some_iff.1 hx).1; omega
        rw [hsec, List.getElem?_take, if_pos hj, List.getElem?_drop] at hx
        rw [List.getElem?_toArray, List.getElem?_append_left (by simp; omega), u8s_get, hx]
        rfl⟩
      have hA' := hA.fr ((Fr.refl [] w).alloc (.cells #[.slice none 0 0] 28)) (by simp)
      have HC := Lib.hid (clone_n (w.alloc (.cells #[.slice none 0 0] 28)) (some ⟨g, k * 64, none⟩) 64 64 sec hsl hA' (by omega))
      have HSEC := Lib.hid hsec
      have hbx := (Blk.new w 28 #[.slice none 0 0])
      have HBX := Lib.hid hbx
      have HW := Lib.hid ((Fr.refl [] w).alloc (.cells #[.slice none 0 0] 28))
      clear h hd hi hr hl hsl hA hA' hsec hbx
      go_enter Try.func20, Try.ntmps20
      go_wp2_with (first | (go_at_call 27; (with_reducible refine HC.out.mono ?_); rintro e w1 ⟨A1, k1, rfl, ho1, hf1⟩; have HO1 := Lib.hid ho1; have HF1 := Lib.hid hf1; have hb1 := HBX.out.fr hf1 (by simp); have d1 := hb1.cell 0; have d2 := hb1.frozen 0; clear ho1 hf1 hb1; simp at d1) | go_in)
      go_ret2
      rw [Int.toNat_natCast, ← HSEC.out]
      have ho1 := HO1.out
      have hs1 : Fr [w.heap.size] w1 (w1.setCell ⟨w.heap.size, 0, none⟩ (.slice A1 sec.length k1)) := (Fr.refl _ _).setCell (.inl (by simp)) _
      have ho2 := own_mono (base' := w.heap.size) (own_fr ho1 hs1 (by intro b hb; have := (ho1.lt b hb).1; simp at this; simp; omega)) (by simp)
      exact ⟨A1, k1, rfl, ho2, (HW.out.trans HF1.out).setCell (.inr (Nat.le_refl _)) _⟩

def Own58 (w : World) (n : Nat) (bs : List UInt8) (e : Ending) (w' : World) : Prop :=
  ∃ g' cap rest, e = .returned (.slice (some ⟨g', 0, none⟩) n cap) ∧ Blk w' g' 58 (u8s bs ++ rest).toArray ∧ w.heap.size ≤ g' ∧ n ≤ cap ∧ Fr [] w w'
/-- the list's sectors, of which the disk's are made, in a row of their own -/
theorem clone58_calls (w : World) (g n c : Nat) (bs : List UInt8) (rest : List Value) (hg : Blk w g 58 (u8s bs ++ rest).toArray) (hl : bs.length = 64 * n) (hn : n ≤ 4096) :
    Calls Try.prog 28 #[.slice (some ⟨g, 0, none⟩) n c] w
      (Own58 w n bs) := by
  have heq : ∀ w : World, (binOp .eql 51 (.slice (some ⟨g, 0, none⟩) n c) (.slice none 0 0)).run Try.prog w = .ok (.bool false) w := fun w => Lib.run_eql_slice_nil (P := Try.prog) w 51 58 (some ⟨g, 0, none⟩) n c 0 0 Try.underlying51
  have HS := Lib.hid (show 0 < (u8s bs).length → ∃ ad, some (⟨g, 0, none⟩ : Addr) = some ad ∧ ∀ j v, (u8s bs)[j]? = some v → (w.alloc (.cells #[] 58)).cell? (ad.add j) = some v from
    fun _ => ⟨_, rfl, fun j v hv => by
      rw [addr_add0, (hg.alloc _).cell, Nat.zero_add, List.getElem?_toArray, List.getElem?_append_left (by simpa using (List.getElem?_eq_some_iff.1 hv).1)]
      exact hv⟩)
  have HO := Lib.hid (World.ownsRow_made (base := w.heap.size) (e := 58) (size := 64) w #[] 0 (Nat.le_refl _) (by decide) (by simp))
  have h63 : 0 + n ≤ maxLen := by unfold maxLen; omega
  have hby : (0 + n) * 64 ≤ 140737488355328 := by omega
  have hlen : (u8s bs).length = n * 64 := by simp; omega
  have hz : (Value.agg (zs 64).toArray).cells.size = 64 := by simp [Value.cells, zs_length]
  have HG := Lib.hid hg
  clear hl hg
  go_enter Try.func28, Try.ntmps28
  go_wp2_with (at_builtin; refine wpList_append rfl (.tmp 5) (.tmp 6) 51 rfl w.heap.size 58 (.agg (zs 64).toArray) 64 64 Try.underlying51 info58 hz (by decide) (.slice (some ⟨w.heap.size, 0, none⟩) 0 0) 0 [] rfl HO.out _ _ _ (u8s bs) rfl hlen HS.out (u8s_one _) h63 hby (by simp) ?_; intro v1 w1 ho1 hw1 hg1 hb1)
  go_ret
  have hf : Fr [] w w1 := ((Fr.refl [] w).alloc _).thenBelow hw1
  rcases ho1.2 with ⟨rfl, _⟩ | ⟨g', cap, cur, rfl, hb, hgg, hnc, hcap, hsz, htk⟩
  · simp [Value.ownBlock] at hb1
  · rw [Nat.zero_add] at *
    refine ⟨g', cap, cur.toList.drop (n * 64), rfl, ?_, hb, hnc, hf⟩
    have e : cur = (u8s bs ++ cur.toList.drop (n * 64)).toArray := by
      rw [show u8s bs = cur.toList.take (n * 64) by rw [htk]; simp, List.take_append_drop]
    show w1.heap[g']? = _
    rw [← e]; exact hgg

def CopyPost (w : World) (n : Nat) (s' : DS) (e : Ending) (w' : World) : Prop :=
  ∃ p' g' cap', e = .returned (.pointer (some ⟨p', 0, none⟩)) ∧ IsDisk w' p' g' n cap' s' ∧ w.heap.size ≤ p' ∧ w.heap.size ≤ g' ∧ Fr [] w w'

theorem copy_calls (w : World) (p g n cap : Nat) (s : DS) (h : IsDisk w p g n cap s) :
    Calls Try.prog 23 #[.pointer (some ⟨p, 0, none⟩)] w (CopyPost w n { bs := s.bs, dead := false, fuse := -1, torn := 0, writes := 0 }) := by
  have h0 : w.cell? ⟨p, 0, none⟩ = some (.slice (some ⟨g, 0, none⟩) n cap) := by rw [h.head.cell]; rfl
  obtain ⟨rest, hr⟩ := h.rows
  have HC := Lib.hid (clone58_calls w g n cap s.bs rest hr h.len h.few)
  have H := Lib.hid h
  clear h hr
  go_enter Try.func23, Try.ntmps23
  go_wp2_with (go_at_call 28; (with_reducible refine HC.out.mono ?_); rintro e w1 ⟨g', cap', rest', rfl, hbk, hgb, hnc, hf1⟩; have HBK := Lib.hid hbk; have HF1 := Lib.hid hf1; clear hbk hf1)
  go_ret
  have hb2 := Blk.new w1 53 #[.slice (some ⟨g', 0, none⟩) n cap', .bool false, .int .i64 (-1), .int .i64 0, .int .i64 0]
  have h := H.out
  refine ⟨_, g', cap', rfl, ⟨by simpa using hb2, ⟨rest', HBK.out.alloc _⟩, h.len, hnc, h.few, by simp, by simp⟩, HF1.out.size, hgb, HF1.out.alloc _⟩
end Go.Proofs.Ytccmaeifafcocaa
