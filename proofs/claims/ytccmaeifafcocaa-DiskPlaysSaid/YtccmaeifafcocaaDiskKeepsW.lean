/- The walk of DiskKeeps. -/
import Derived.Test.YtccmaeifafcocaaDiskMakesW
namespace Go.Proofs.Ytccmaeifafcocaa
open Go.RowKit

theorem sector_int (w : World) (x : Int) (y : UInt8) (h : x = (y.toNat : Int)) : Calls Try.prog 10 #[.int .u8 x] w (NewRow w 64 (List.replicate 64 y)) := by
  subst h; exact sector_calls w y

/-- the disk behind j writes -/
def keepS (a : UInt8) : Nat → DS
  | 0 => DS.new 8
  | j + 1 => ((keepS a j).wr 8 j (List.replicate 64 (a + UInt8.ofNat j))).1

theorem keepS_fields (a : UInt8) : ∀ j, j ≤ 8 → (keepS a j).fuse = -1 ∧ (keepS a j).dead = false ∧ (keepS a j).writes = j ∧ (keepS a j).bs.length = 512
  | 0, _ => ⟨rfl, rfl, rfl, List.length_replicate⟩
  | j + 1, hj => by
    obtain ⟨h1, h2, h3, h4⟩ := keepS_fields a j (by omega)
    simp only [keepS]
    unfold DS.wr DS.write
    rw [if_neg (by simp [h2]), if_neg (by omega), if_neg (by simp), if_neg (by omega)]
    refine ⟨by simp [h1], h2, by simp [h3], ?_⟩
    show (splice _ _ _).length = 512
    rw [length_splice _ _ _ (by simp [h4]; omega)]
    exact h4
theorem keepS_ok (a : UInt8) (j : Nat) (hj : j < 8) (x : List UInt8) (hx : x.length = 64) : ((keepS a j).wr 8 j x).2 = 0 := by
  obtain ⟨h1, h2, h3, h4⟩ := keepS_fields a j (by omega)
  unfold DS.wr DS.write
  rw [if_neg (by simp [h2]), if_neg (by omega), if_neg (by simp [hx]), if_neg (by omega)]

def keepT (torn : Int) : Nat := (min (max torn 0) 64).toNat
/-- the disk behind the torn write -/
def keepZ (bs : List UInt8) (b : UInt8) (at_ : Nat) (t : Nat) : DS := { bs := splice bs (at_ * 64) (List.replicate t b), dead := true, fuse := -1, torn := t, writes := 9 }
theorem keep_torn (s : DS) (b : UInt8) (at_ : Nat) (torn : Int) (hat : at_ < 8) (h2 : s.dead = false) (h3 : s.writes = 8) :
    DS.wr { s with fuse := max 0 (-1), torn := (min (max torn 0) 64).toNat } 8 (at_ : Int) (List.replicate 64 b) = (keepZ s.bs b at_ (keepT torn), 30) := by
  unfold DS.wr DS.write
  rw [if_neg (by simp [h2]), if_neg (by omega), if_neg (by simp), if_pos (by show max (0 : Int) (-1) = 0; decide)]
  have e : List.take (min (max torn 0) 64).toNat (List.replicate 64 b) = List.replicate (keepT torn) b := by
    rw [List.take_replicate]; congr 1; unfold keepT; omega
  simp only [h3, e, Int.toNat_natCast]
  rfl
theorem keep_get (l m : List UInt8) (off n : Nat) (x : UInt8) (hm : off + m.length ≤ l.length) (hx : l[n]? = some x) (h : ¬ (off ≤ n ∧ n < off + m.length)) : (splice l off m)[n]? = some x := by
  unfold splice
  have hn : n < l.length := (List.getElem?_eq_some_iff.1 hx).1
  by_cases h1 : n < off
  · rw [List.getElem?_append_left (by simp; omega), List.getElem?_take, if_pos h1, hx]
  · have h2 : off + m.length ≤ n := by omega
    rw [List.getElem?_append_right (by simp; omega), List.getElem?_append_right (by simp; omega), List.getElem?_drop]
    simp only [List.length_take]
    rw [show off + m.length + (n - min off l.length - m.length) = n by omega, hx]
theorem keep_in (l : List UInt8) (off n t : Nat) (b : UInt8) (hm : off + t ≤ l.length) (h : off ≤ n ∧ n < off + t) : (splice l off (List.replicate t b))[n]? = some b := by
  unfold splice
  rw [List.getElem?_append_right (by simp; omega), List.getElem?_append_left (by simp; omega)]
  simp only [List.length_take, List.getElem?_replicate]
  rw [if_pos (by omega)]

def u8of (x : Int) : UInt8 := UInt8.ofNat x.toNat
theorem u8of_spec (x : Int) (h0 : 0 ≤ x) (h1 : x < 256) : x = ((u8of x).toNat : Int) := by
  unfold u8of
  rw [UInt8.toNat_ofNat']
  omega

set_option maxRecDepth 100000 in
set_option maxHeartbeats 1000000 in
theorem keeps_walk (a b i k : UInt8) (torn : Int) (h1 : -9223372036854775808 ≤ torn) (h2 : torn ≤ 9223372036854775807) (w : World) :
    Calls Try.prog 3 #[.int .u8 (a.toNat : Int), .int .u8 (b.toNat : Int), .int .u8 (i.toNat : Int), .int .u8 (k.toNat : Int), .int .i64 torn] w (Quiet (.bool true) w) := by
  have HA := Lib.hid (alive_calls w)
  have HN : Hid (∀ w, Calls Try.prog 8 #[.int .i64 8] w (NewDisk w 8)) := Lib.hid (fun w => new_good w 8 (by omega))
  have ha := a.toNat_lt
  have hb := b.toNat_lt
  have hi := i.toNat_lt
  have hk := k.toNat_lt
  go_enter Try.func3, Try.ntmps3
  go_wp2_with (first
      | (go_at_call 7; (with_reducible refine HA.out.mono ?_); rintro e w1 ⟨rfl, f1⟩; have F1 := Lib.hid f1; clear f1)
      | (go_at_call 8; (with_reducible refine (HN.out _).mono ?_); rintro e w2 ⟨rfl, d2, f2⟩; have D2 := Lib.hid d2; have F2 := Lib.hid f2; clear d2 f2))
  go_loopg [13] 8 (fun g n wr => ∃ j : Nat, j ≤ 8 ∧ g = 8 - j ∧ n = .int .i64 j ∧ IsDisk wr (w1.heap.size + 1) w1.heap.size 8 8 (keepS a j) ∧ Fr [] w wr ∧ w2.heap.size ≤ wr.heap.size)
  case atStart => exact ⟨0, by omega, by omega, rfl, D2.out, F1.out.trans F2.out, Nat.le_refl _⟩
  case round =>
    obtain ⟨j, hj, rfl, rfl, hd, hf, hsz⟩ := hrel
    have H := Lib.hid hd; have HF := Lib.hid hf
    clear hd hf
    by_cases hlt : j < 8
    · go_wp2_with fail
      refine (sector_int _ _ (a + UInt8.ofNat j) (by rw [UInt8.toNat_add, UInt8.toNat_ofNat']; omega)).mono ?_
      rintro e w3 ⟨rfl, b3, f3⟩
      have D3 := Lib.hid (H.out.fr f3 (by simp) (by simp)); have B3 := Lib.hid b3; have F3 := Lib.hid f3; clear b3 f3
      go_wp2_with fail
      refine (write_n w3 _ _ _ _ _ D3.out j (some ⟨wr.heap.size, 0, none⟩) 64 64 (List.replicate 64 (a + UInt8.ofNat j)) (by simp) (rd_new B3.out) ?_ (by omega) (by have := (keepS_fields a j hj).2.2.1; omega)).mono ?_
      · intro b off hb; have := H.out.lt; have := B3.out.lt; simp at hb; omega
      rintro e w4 ⟨rfl, d4, f4⟩
      rw [keepS_ok a j hlt _ (by simp)]
      have D4 := Lib.hid d4; have F4 := Lib.hid f4; clear d4 f4
      go_wp2_with fail
      go_roundg (8 - (j + 1))
      case measure => omega
      case rel =>
        have hp := F1.out.size
        exact ⟨j + 1, by omega, rfl, by go_num, D4.out, (HF.out.trans' F3.out (by simp)).trans' F4.out (by simp; omega), Nat.le_trans hsz (Nat.le_trans F3.out.size F4.out.size)⟩
    · obtain rfl : j = 8 := by omega
      obtain ⟨s8, k1, k2, k3, hl0, H⟩ : ∃ s : DS, s.fuse = -1 ∧ s.dead = false ∧ s.writes = 8 ∧ s.bs.length = 512 ∧ Hid (IsDisk wr (w1.heap.size + 1) w1.heap.size 8 8 s) := by
        have hh := keepS_fields a 8 (by omega)
        exact ⟨_, hh.1, hh.2.1, hh.2.2.1, hh.2.2.2, H⟩
      have K1 := Lib.hid k1; have K2 := Lib.hid k2; have K3 := Lib.hid k3; clear k1 k2 k3
      go_wp2_with fail
      refine (all_some _ _ _ _ _ _ H.out 512 hl0 (by omega)).mono ?_
      rintro e w3 ⟨bw, cw, rfl, hcw, cellw, hbw, hbw2, f3⟩
      have D3 := Lib.hid (H.out.fr f3 (by simp) (by simp)); have CW := Lib.hid cellw; have F3 := Lib.hid f3; have BW := Lib.hid (show wr.heap.size ≤ bw ∧ bw < w3.heap.size from ⟨hbw, hbw2⟩)
      clear cellw f3 hbw hbw2
      go_wp2_with fail
      refine (fuse_calls _ _ _ _ _ _ D3.out 0 torn (by omega)).mono ?_
      rintro e w4 ⟨rfl, d4, f4⟩
      have D4 := Lib.hid d4; have F4 := Lib.hid f4; clear d4 f4
      go_wp2_with fail
      refine (sector_calls _ b).mono ?_
      rintro e w5 ⟨rfl, b5, f5⟩
      have D5 := Lib.hid (D4.out.fr f5 (by simp) (by simp)); have B5 := Lib.hid b5; have F5 := Lib.hid f5; clear b5 f5
      go_wp2_with fail
      refine (write_n w5 _ _ _ _ _ D5.out ((i.toNat % 8 : Nat) : Int) (some ⟨w4.heap.size, 0, none⟩) 64 64 (List.replicate 64 b) (by simp) (rd_new B5.out) ?_ (by omega) (by have := K3.out; show s8.writes < _; omega)).mono ?_
      · intro c off hc; have := D4.out.lt; have := B5.out.lt; simp at hc; omega
      rw [keep_torn s8 b _ torn (by omega) K2.out K3.out]
      rintro e w6 ⟨rfl, d6, f6⟩
      have D6 := Lib.hid d6; have F6 := Lib.hid f6; clear d6 f6
      go_wp2_with fail
      refine (sector_calls _ b).mono ?_
      rintro e w7 ⟨rfl, b7, f7⟩
      have D7 := Lib.hid (D6.out.fr f7 (by simp) (by simp)); have B7 := Lib.hid b7; have F7 := Lib.hid f7; clear b7 f7
      go_wp2_with fail
      refine (write_n w7 _ _ _ _ _ D7.out ((k.toNat % 8 : Nat) : Int) (some ⟨w6.heap.size, 0, none⟩) 64 64 (List.replicate 64 b) (by simp) (rd_new B7.out) ?_ (by omega) (by show 9 < 1000000; omega)).mono ?_
      · intro c off hc; have := D6.out.lt; have := B7.out.lt; simp at hc; omega
      rw [show (keepZ s8.bs b (i.toNat % 8) (keepT torn)).wr 8 ((k.toNat % 8 : Nat) : Int) (List.replicate 64 b) = (keepZ s8.bs b (i.toNat % 8) (keepT torn), 30) by simp [DS.wr, keepZ]]
      rintro e w8 ⟨rfl, d8, f8⟩
      have D8 := Lib.hid d8; have F8 := Lib.hid f8; clear d8 f8
      go_wp2_with fail
      have hat : i.toNat % 8 < 8 := Nat.mod_lt _ (by omega)
      have ht : keepT torn ≤ 64 := by unfold keepT; omega
      have hl1 : (keepZ s8.bs b (i.toNat % 8) (keepT torn)).bs.length = 512 := by
        show (splice _ _ _).length = 512
        rw [length_splice _ _ _ (by simp [hl0]; omega)]; exact hl0
      refine (all_some _ _ _ _ _ _ D8.out 512 hl1 (by omega)).mono ?_
      rintro e w9 ⟨bn, cn, rfl, hcn, celln, hbn, hbn2, f9⟩
      have D9 := Lib.hid (D8.out.fr f9 (by simp) (by simp)); have CN := Lib.hid celln; have F9 := Lib.hid f9
      clear celln f9 hbn hbn2
      go_upto_region 17 with fail
      go_cut [17] (fun v wc => w9 = wc ∧ v = .int .i64 (keepT torn : Int))
      case first =>
        go_wp2
        all_goals (go_meet; exact ⟨rfl, by unfold keepT; congr 1; omega⟩)
      case rest =>
        obtain ⟨rfl, rfl⟩ := hcut
        have hbw := BW.out
        have CW9 : Hid (∀ j x, s8.bs[j]? = some x → w9.cell? ⟨bw, j, none⟩ = some (u8v x)) := Lib.hid (fun j x hx => by
          have hc := CW.out j x hx
          have hp := F1.out.size
          have hw1 := H.out.lt
          have f := (((((F4.out.trans' F5.out (by simp)).trans' F6.out (by simp)).trans' F7.out (by simp)).trans' F8.out (by simp)).trans' F9.out (by simp))
          rw [f.cell (p := ⟨bw, j, none⟩) hbw.2 (by simp; omega)]
          exact hc)
        clear hbw
        go_wp2_with fail
        go_loopg [18] 512 (fun g v wc => ∃ n : Nat, n ≤ 512 ∧ g = 512 - n ∧ v = .int .i64 n ∧ w9 = wc)
        case atStart => exact ⟨0, by omega, by omega, rfl, rfl⟩
        case round =>
          obtain ⟨n, hn, rfl, rfl, rfl⟩ := hrel
          by_cases hlt : n < 512
          · obtain ⟨x, hx⟩ : ∃ x, s8.bs[n]? = some x := ⟨s8.bs[n]'(by omega), by simp⟩
            have hc1 := CW9.out n x hx
            have hx1 := x.toNat_lt
            by_cases hin : i.toNat % 8 * 64 ≤ n ∧ n < i.toNat % 8 * 64 + keepT torn
            · have hc2 := CN.out n b (keep_in _ _ _ _ _ (by omega) hin)
              obtain ⟨hin1, hin2⟩ := hin
              have hd1 : 64 * ((i.toNat : Int) % 8) ≤ n := by omega
              have hd2 : (n : Int) < 64 * ((i.toNat : Int) % 8) + (keepT torn : Int) := by omega
              clear hx hl1 hl0
              go_wp2
              go_roundg (512 - (n + 1))
              case measure => omega
              case rel => exact ⟨n + 1, by omega, rfl, by go_num, rfl⟩
            · have hc2 := CN.out n x (keep_get _ _ _ _ _ (by simp; omega) hx (by simpa using hin))
              clear hx hl1 hl0
              by_cases hd1 : 64 * ((i.toNat : Int) % 8) ≤ n
              · have hd2 : ¬ (n : Int) < 64 * ((i.toNat : Int) % 8) + (keepT torn : Int) := by omega
                clear hin
                go_wp2
                go_roundg (512 - (n + 1))
                case measure => omega
                case rel => exact ⟨n + 1, by omega, rfl, by go_num, rfl⟩
              · clear hin
                go_wp2
                go_roundg (512 - (n + 1))
                case measure => omega
                case rel => exact ⟨n + 1, by omega, rfl, by go_num, rfl⟩
          · obtain rfl : n = 512 := by omega
            go_wp2_with (first
              | (go_at_call 13; (with_reducible refine (dead_calls _ _ _ _ _ _ D9.out).mono ?_); rintro e w4 ⟨rfl, rfl⟩)
              | (go_at_call 14; (with_reducible refine (writes_calls _ _ _ _ _ _ D9.out).mono ?_); rintro e w4 ⟨rfl, rfl⟩))
            go_ret
            have hp := F1.out.size
            exact ⟨by simp [keepZ], ((((((HF.out.trans' F3.out (by simp)).trans' F4.out (by simp; omega)).trans' F5.out (by simp)).trans' F6.out (by simp; omega)).trans' F7.out (by simp)).trans' F8.out (by simp; omega)).trans' F9.out (by simp)⟩
end Go.Proofs.Ytccmaeifafcocaa
