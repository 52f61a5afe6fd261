/- The walk of DiskCopies. -/
import Derived.Test.YtccmaeifafcocaaDiskKeepsW
import Derived.Deep.RegionWith
import Derived.Deep.DeepCutAuto
namespace Go.Proofs.Ytccmaeifafcocaa
open Go.RowKit

/-- An operation of a script. -/
structure DOp where
  kind : UInt8
  i : Int
  bA : Option Addr
  bC : Nat
  b : List UInt8
  whole : Bool
  torn : Int

/-- Operation j of the slice whose address is A lies in its five cells. -/
structure OpAt (w : World) (b off : Nat) (o : DOp) : Prop where
  c0 : w.cell? ⟨b, off, none⟩ = some (.int .u8 (o.kind.toNat : Int))
  c1 : w.cell? ⟨b, off + 1, none⟩ = some (.int .i64 o.i)
  c2 : w.cell? ⟨b, off + 2, none⟩ = some (.slice o.bA o.b.length o.bC)
  c3 : w.cell? ⟨b, off + 3, none⟩ = some (.bool o.whole)
  c4 : w.cell? ⟨b, off + 4, none⟩ = some (.int .i64 o.torn)
  hi : -9223372036854775808 ≤ o.i ∧ o.i ≤ 9223372036854775807
  ht : -9223372036854775808 ≤ o.torn ∧ o.torn ≤ 9223372036854775807
  rd : Rd w o.bA o.b
  hc : o.b.length ≤ o.bC
def OpsIn (w : World) (A : Option Addr) (l : List DOp) : Prop := ∀ j o, l[j]? = some o → ∃ b off, A = some ⟨b, off, none⟩ ∧ b < w.heap.size ∧ OpAt w b (off + j * 5) o

theorem OpAt.fr {w w' : World} {b off : Nat} {o : DOp} (h : OpAt w b off o) (hf : Below w.heap.size w w') (hb : b < w.heap.size) : OpAt w' b off o := by
  have e : ∀ k, w'.cell? ⟨b, k, none⟩ = w.cell? ⟨b, k, none⟩ := fun k => hf.cell (p := ⟨b, k, none⟩) hb
  refine ⟨by rw [e]; exact h.c0, by rw [e]; exact h.c1, by rw [e]; exact h.c2, by rw [e]; exact h.c3, by rw [e]; exact h.c4, h.hi, h.ht, fun hl => ?_, h.hc⟩
  obtain ⟨b', off', hA, hc⟩ := h.rd hl
  refine ⟨b', off', hA, fun j x hx => ?_⟩
  have h1 := hc j x hx
  rw [hf.cell (p := ⟨b', off' + j, none⟩) (World.block_lt_of_cell? _ _ h1)]
  exact h1
theorem OpsIn.fr {w w' : World} {A : Option Addr} {l : List DOp} (h : OpsIn w A l) (hf : Below w.heap.size w w') : OpsIn w' A l := fun j o ho => by
  obtain ⟨b, off, hA, hb, hc⟩ := h j o ho
  exact ⟨b, off, hA, Nat.lt_of_lt_of_le hb hf.size, hc.fr hf hb⟩

theorem wr_fields (s : DS) (n : Nat) (i : Int) (l : List UInt8) : (s.wr n i l).1.writes ≤ s.writes + 1 := by
  unfold DS.wr DS.write
  split
  · simp
  · split
    · simp
    · split
      · simp
      · split <;> simp

theorem run_index_slice {P : Program} (w : World) {t e : TypeId} {size : Nat} (ht : P.underlying t = some (.slice e)) (hi : (P.info? e).map (·.size) = some size)
    {A : Option Addr} {b off n c j : Nat} (hA : A = some ⟨b, off, none⟩) (hj : j < n) :
    (Instr.indexAt t (.slice A n c) (.int .i64 (j : Int))).run P w = .ok (.pointer (some ⟨b, off + j * size, none⟩)) w := by
  subst hA
  cases hq : P.info? e with
  | none => simp [hq] at hi
  | some i =>
    have hs : i.size = size := by simpa [hq] using hi
    have h0 : (0 : Int) ≤ j ∧ (j : Int) < n := by omega
    simp [Instr.indexAt, asIntOf, run_underlying ht, sizeOf, typeInfo, hq, hs, h0, addr_add0, hj]
theorem sizeOp : (Try.prog.info? 40).map (·.size) = some 5 := by kernel_rfl

theorem mod6 (x : Int) : ∃ k : Nat, k < 6 ∧ wrap64 ((IntKind.u64.wrap x).tmod 6) = (k : Int) := by
  rw [IntKind.wrap_u64]
  have h0 : 0 ≤ x % 18446744073709551616 := Int.emod_nonneg _ (by omega)
  rw [Int.tmod_eq_emod_of_nonneg h0]
  refine ⟨(x % 18446744073709551616 % 6).toNat, by omega, ?_⟩
  rw [IntWalk.wrap64_in _ ⟨by omega, by omega⟩]
  omega
theorem wr_ok (s : DS) (n k : Nat) (l : List UInt8) (h1 : s.fuse = -1) (h2 : s.dead = false) (hk : k < n) (hl : l.length = 64) :
    s.wr n k l = ({ bs := splice s.bs (k * 64) l, dead := s.dead, fuse := s.fuse, torn := s.torn, writes := s.writes + 1 }, 0) := by
  unfold DS.wr DS.write
  rw [if_neg (by simp [h2]), if_neg (by omega), if_neg (by simp [hl]), if_neg (by omega), if_neg (by omega), Int.toNat_natCast]

def CopyAll (w4 : World) (bs : List UInt8) (bw cw : Nat) (e : Ending) (w5 : World) : Prop :=
  ∃ b5 c5, e = .returned (.slice (some ⟨b5, 0, none⟩) 384 c5) ∧ (convert 28 9 (.slice (some ⟨b5, 0, none⟩) 384 c5)).run Try.prog w5 = .ok (.string (str bs)) w5 ∧
    (convert 28 9 (.slice (some ⟨bw, 0, none⟩) 384 cw)).run Try.prog w5 = .ok (.string (str bs)) w5 ∧ Fr [] w4 w5

set_option maxRecDepth 100000 in
set_option maxHeartbeats 20000000 in
theorem copies_walk (w : World) (A B : Option Addr) (ca cb : Nat) (l m : List DOp) (hA : OpsIn w A l) (hB : OpsIn w B m) (hl : l.length ≤ maxLen) (hm : m.length ≤ maxLen) :
    Calls Try.prog 6 #[.slice A l.length ca, .slice B m.length cb] w (Quiet (.bool true) w) := by
  unfold maxLen at hl hm
  have HA := Lib.hid (alive_calls w)
  have HN : Hid (∀ w, Calls Try.prog 8 #[.int .i64 6] w (NewDisk w 6)) := Lib.hid (fun w => new_good w 6 (by omega))
  have HL := Lib.hid hA
  have HM := Lib.hid hB
  clear hA hB
  go_enter Try.func6, Try.ntmps6
  go_wp2_with (first
      | (go_at_call 7; (with_reducible refine HA.out.mono ?_); rintro e w1 ⟨rfl, f1⟩; have F1 := Lib.hid f1; clear f1)
      | (go_at_call 8; (with_reducible refine (HN.out _).mono ?_); rintro e w2 ⟨rfl, d2, f2⟩; have D2 := Lib.hid d2; have F2 := Lib.hid f2; clear d2 f2))
  go_loopg [7] 30 (fun g n wr => ∃ (j : Nat) (s : DS), j ≤ 30 ∧ j ≤ l.length ∧ g = 30 - j ∧ n = .int .i64 j ∧ IsDisk wr (w1.heap.size + 1) w1.heap.size 6 6 s ∧ s.writes ≤ j ∧ Fr [] w wr)
  case atStart => exact ⟨0, _, by omega, by omega, by omega, rfl, D2.out, by simp [DS.new], F1.out.trans F2.out⟩
  case round =>
    obtain ⟨j, s, hj, hjl, rfl, rfl, hd, hsw, hf⟩ := hrel
    have H := Lib.hid hd; have HF := Lib.hid hf
    have hOps := Lib.hid (HL.out.fr (hf.below (Nat.le_refl _) (by simp)))
    clear hd hf
    go_upto_region 5 with fail
    go_cut [26] (fun v wc => wr = wc ∧ ∃ c : Bool, v = .bool c ∧ (c = true ↔ j < l.length ∧ j < 30))
    case first =>
      by_cases hlt1 : j < l.length
      · by_cases hlt2 : j < 30
        · go_wp2_with fail
          go_meet
          exact ⟨rfl, _, rfl, by simp [hlt1]; omega⟩
        · go_wp2_with fail
          go_meet
          exact ⟨rfl, _, rfl, by simp; omega⟩
      · go_wp2_with fail
        go_meet
        exact ⟨rfl, _, rfl, by simp [hlt1]⟩
    case rest =>
    obtain ⟨rfl, c, rfl, hc⟩ := hcut
    have HCC := Lib.hid hc
    clear hc
    cases c with
    | true =>
      obtain ⟨hlt, hlt3⟩ := HCC.out.1 rfl
      obtain ⟨o, ho⟩ : ∃ o, l[j]? = some o := ⟨l[j], by simp⟩
      obtain ⟨b, off, hAe, hbs, hat⟩ := hOps.out j o ho
      have c0 := hat.c0
      have c1 := hat.c1
      have c4 := hat.c4
      have hk := o.kind.toNat_lt
      have HAT := Lib.hid hat
      have hidx := fun w => run_index_slice (P := Try.prog) w Try.underlying34 sizeOp (n := l.length) (c := ca) hAe hlt
      clear hat ho hOps hAe
      by_cases h6 : o.kind.toNat % 8 = 6
      · have h6b : ((o.kind.toNat : Int) % 8 == 6) = true := by simp; omega
        clear h6
        have hok := HAT.out.hi
        have HD := Lib.hid (fuse_calls _ _ _ _ _ s (H.out.fr ((Fr.refl [] wr).drew) (by simp) (by simp)) o.i o.torn (by omega))
        clear hok
        go_wp2_with fail
        go_region_with (go_at_call 12; refine HD.out.mono ?_; rintro e w3 ⟨rfl, d3, f3⟩)
        all_goals
          go_wp2_with fail
          go_roundg (30 - (j + 1))
          case measure => omega
          case rel => exact ⟨j + 1, _, by omega, by omega, rfl, by go_num, d3, by simp; omega, HF.out.drew.trans' f3 (by have := F1.out.size; simp; omega)⟩
      · by_cases h7 : o.kind.toNat % 8 = 7
        · have h7b : ((o.kind.toNat : Int) % 8 == 7) = true := by simp; omega
          have h6b : ((o.kind.toNat : Int) % 8 == 6) = false := by simp; omega
          have HD := Lib.hid (wake_calls _ _ _ _ _ s H.out)
          clear h7 h6
          go_wp2_with (go_at_call 18; (with_reducible refine HD.out.mono ?_); rintro e w3 ⟨rfl, d3, f3⟩; have D3 := Lib.hid d3; have F3 := Lib.hid f3; clear d3 f3)
          go_roundg (30 - (j + 1))
          case measure => omega
          case rel => exact ⟨j + 1, _, by omega, by omega, rfl, by go_num, D3.out, by simp; omega, HF.out.trans' F3.out (by have := F1.out.size; simp; omega)⟩
        · have h7b : ((o.kind.toNat : Int) % 8 == 7) = false := by simp; omega
          have h6b : ((o.kind.toNat : Int) % 8 == 6) = false := by simp; omega
          have hy := u8of_spec (o.torn % 256) (by omega) (by omega)
          have HS := Lib.hid (sector_int wr.drew (o.torn % 256) (u8of (o.torn % 256)) hy)
          have HWR : Hid (∀ w3, Blk w3 wr.heap.size 5 (u8s (List.replicate 64 (u8of (o.torn % 256)))).toArray → Fr [] wr.drew w3 →
              Calls Try.prog 9 #[.pointer (some ⟨w1.heap.size + 1, 0, none⟩), .int .i64 o.i, .slice (some ⟨wr.heap.size, 0, none⟩) 64 64] w3
                (WPost (w1.heap.size + 1) w1.heap.size 6 6 (s.wr 6 o.i (List.replicate 64 (u8of (o.torn % 256)))) w3)) := Lib.hid (fun w3 b3 f3 =>
            write_n w3 _ _ _ _ s (H.out.fr ((Fr.refl [] wr).drew.trans f3) (by simp) (by simp)) o.i (some ⟨wr.heap.size, 0, none⟩) 64 64 _ (by simp) (rd_new b3)
              (by intro c off hc; have := H.out.lt; have := b3.lt; simp at hc; omega) (by omega) (by omega))
          have HC1 : Hid (∀ w3, Fr [] wr.drew w3 → w3.cell? ⟨b, off + j * 5 + 1, none⟩ = some (.int .i64 o.i)) := Lib.hid (fun w3 f3 => by
            rw [f3.cell (p := ⟨b, off + j * 5 + 1, none⟩) hbs (by simp)]; exact c1)
          clear h7 h6 hy
          go_wp2_with fail
          go_region_with (first | (go_at_call 10; refine HS.out.mono ?_; rintro e w3 ⟨rfl, b3, f3⟩; have c1' := HC1.out w3 f3) | (go_at_call 9; refine (HWR.out w3 b3 f3).mono ?_; rintro e w4 ⟨rfl, d4, f4⟩))
          all_goals
            go_wp2_with fail
            go_roundg (30 - (j + 1))
            case measure => omega
            case rel => exact ⟨j + 1, _, by omega, by omega, rfl, by go_num, d4, by have := wr_fields s 6 o.i (List.replicate 64 (u8of (o.torn % 256))); omega, (HF.out.drew.trans f3).trans' f4 (by have := F1.out.size; simp; omega)⟩
    | false =>
      go_wp2_with fail
      refine (copy_calls _ _ _ _ _ _ H.out).mono ?_
      rintro e w3 ⟨p', g', cap', rfl, d3, hp', hg', f3⟩
      have HP' := Lib.hid (show wr.heap.size ≤ p' ∧ wr.heap.size ≤ g' from ⟨hp', hg'⟩)
      have D3 := Lib.hid d3; have F3 := Lib.hid f3; have D3' := Lib.hid (H.out.fr f3 (by simp) (by simp))
      clear d3 f3 hp' hg'
      go_wp2_with fail
      refine (all_some _ _ _ _ _ _ D3'.out 384 H.out.len (by omega)).mono ?_
      rintro e w4 ⟨bw, cw, rfl, hcw, cellw, hbw, hbw2, f4⟩
      have D4 := Lib.hid (D3.out.fr f4 (by simp) (by simp)); have D4' := Lib.hid (D3'.out.fr f4 (by simp) (by simp)); have CW := Lib.hid cellw; have F4 := Lib.hid f4
      clear cellw f4
      go_wp2_with fail
      refine (dead_calls _ _ _ _ _ _ D4'.out).mono ?_
      rintro e w5 ⟨rfl, rfl⟩
      go_wp2_with fail
      have hst := str_toList
      have hlen := H.out.len
      have hrdw : Rd w4 (some ⟨bw, 0, none⟩) s.bs := fun _ => ⟨bw, 0, rfl, fun j x hx => by have := CW.out j x hx; rw [Nat.zero_add]; exact this⟩
      go_cut [92] (fun v wc => v = .bool false ∧ Fr [] w4 wc)
      case first =>
        have hcv4 : (convert 28 9 (.slice (some ⟨bw, 0, none⟩) 384 cw)).run Try.prog w4.drew = .ok (.string (str s.bs)) w4.drew := by
          have := run_conv_str (P := Try.prog) (w := w4.drew) Try.underlying28 Try.underlying5 Try.underlying9 hrdw.drew cw
          rwa [hlen] at this
        have HALL : Hid (Calls Try.prog 11 #[.pointer (some ⟨p', 0, none⟩)] w4.drew (CopyAll w4 s.bs bw cw)) := Lib.hid ((all_some w4.drew _ _ _ _ _ (D4.out.fr ((Fr.refl [] w4).drew) (by simp) (by simp)) 384 H.out.len (by omega)).mono (by
          rintro e w5 ⟨b5, c5, rfl, hc5, cell5, _, _, f5⟩
          have f5' : Fr [] w4 w5 := ((Fr.refl [] w4).drew).trans f5
          have r5 : Rd w5 (some ⟨b5, 0, none⟩) s.bs := fun _ => ⟨b5, 0, rfl, fun j x hx => by have := cell5 j x hx; rw [Nat.zero_add]; exact this⟩
          have h1 := run_conv_str (P := Try.prog) (w := w5) Try.underlying28 Try.underlying5 Try.underlying9 r5 c5
          have h2 := run_conv_str (P := Try.prog) (w := w5) Try.underlying28 Try.underlying5 Try.underlying9 (hrdw.fr f5' (by simp)) cw
          rw [hlen] at h1 h2
          exact ⟨b5, c5, rfl, h1, h2, f5'⟩))
        clear hrdw hlen
        go_region_with (first
          | (go_at_call 11; refine HALL.out.mono ?_; rintro e w5 ⟨b5, c5, rfl, hcv5, hcvw5, f5⟩)
          | (go_at_call 13; refine (dead_calls w5 _ _ _ _ _ (D4.out.fr f5 (by simp) (by simp))).mono ?_; rintro e w6 ⟨rfl, rfl⟩)
          | (go_at_call 14; refine (writes_calls w5 _ _ _ _ _ (D4.out.fr f5 (by simp) (by simp))).mono ?_; rintro e w6 ⟨rfl, rfl⟩)
          | (go_at_call 16; refine (len_calls w5 _ _ _ _ _ (D4.out.fr f5 (by simp) (by simp))).mono ?_; rintro e w6 ⟨rfl, rfl⟩))
        all_goals (go_wp2_with fail; go_meet; exact ⟨by simp, f5⟩)
      case rest =>
        obtain ⟨rfl, f5⟩ := hcut
        have F5 := Lib.hid f5; have D5 := Lib.hid (D4.out.fr f5 (by simp) (by simp)); have D5' := Lib.hid (D4'.out.fr f5 (by simp) (by simp))
        clear f5 hrdw hlen
        go_wp2_with fail
        obtain ⟨wo, rfl⟩ : ∃ wo : World, wo = wr := ⟨_, rfl⟩
        go_loopg [11] 30 (fun g n wr2 => ∃ (j : Nat) (s2 : DS), j ≤ 30 ∧ j ≤ m.length ∧ g = 30 - j ∧ n = .int .i64 j ∧ IsDisk wr2 p' g' 6 cap' s2 ∧ s2.fuse = -1 ∧ s2.dead = false ∧ s2.writes ≤ j ∧ Fr [p', g'] wc wr2)
        case atStart => exact ⟨0, _, by omega, by omega, by omega, rfl, D5.out, rfl, rfl, by simp, Fr.refl _ _⟩
        case round =>
          obtain ⟨j2, s2, hj2, hjm, rfl, rfl, hd2, hs2f, hs2d, hs2w, hf2⟩ := hrel
          have H2 := Lib.hid hd2; have HF2 := Lib.hid hf2
          have hbel : Below w.heap.size w wr := by
            have a1 := HF.out.below (Nat.le_refl _) (by simp)
            have a2 : Fr [] wo wc := (F3.out.trans F4.out).trans F5.out
            have a3 := HF.out.size
            have a4 := HP'.out
            exact a1.trans ((a2.below a3 (by simp)).trans ((hf2.below (B := w.heap.size) (Nat.le_trans a3 a2.size) (by simp; omega))))
          have hOps2 := Lib.hid (HM.out.fr hbel)
          have HBEL := Lib.hid hbel
          have HS2 := Lib.hid (show s2.fuse = -1 ∧ s2.dead = false from ⟨hs2f, hs2d⟩)
          clear hd2 hf2 hbel hs2f hs2d
          go_upto_region 18 with fail
          go_cut [100] (fun v wc2 => wr = wc2 ∧ ∃ c : Bool, v = .bool c ∧ (c = true ↔ j2 < m.length ∧ j2 < 30))
          case first =>
            by_cases hlt1 : j2 < m.length
            · by_cases hlt2 : j2 < 30
              · go_wp2_with fail
                go_meet
                exact ⟨rfl, _, rfl, by simp [hlt1]; omega⟩
              · go_wp2_with fail
                go_meet
                exact ⟨rfl, _, rfl, by simp; omega⟩
            · go_wp2_with fail
              go_meet
              exact ⟨rfl, _, rfl, by simp [hlt1]⟩
          case rest =>
          obtain ⟨rfl, c, rfl, hc⟩ := hcut
          have HCC2 := Lib.hid hc
          clear hc
          cases c with
          | true =>
            obtain ⟨hlt, hlt3⟩ := HCC2.out.1 rfl
            obtain ⟨o, ho⟩ : ∃ o, m[j2]? = some o := ⟨m[j2], by simp⟩
            obtain ⟨b, off, hAe, hbs, hat⟩ := hOps2.out j2 o ho
            have c1 := hat.c1
            have c4 := hat.c4
            have hidx := fun w => run_index_slice (P := Try.prog) w Try.underlying34 sizeOp (n := m.length) (c := cb) hAe hlt
            have hy := u8of_spec (o.torn % 256) (by omega) (by omega)
            have HS := Lib.hid (sector_int wr (o.torn % 256) (u8of (o.torn % 256)) hy)
            clear hat ho hAe hy
            go_wp2_with (go_at_call 10; (with_reducible refine HS.out.mono ?_); rintro e w6 ⟨rfl, b6, f6⟩; have B6 := Lib.hid b6; have F6 := Lib.hid f6; clear b6 f6)
            obtain ⟨k, hk6, hk⟩ := mod6 o.i
            rw [hk]
            refine (write_n w6 _ _ _ _ s2 (H2.out.fr F6.out (by simp) (by simp)) (k : Int) (some ⟨wr.heap.size, 0, none⟩) 64 64 (List.replicate 64 (u8of (o.torn % 256))) (by simp) (rd_new B6.out) ?_ (by omega) (by omega)).mono ?_
            · intro c off hc; have := H2.out.lt; have := B6.out.lt; simp at hc; omega
            rw [wr_ok s2 6 k _ HS2.out.1 HS2.out.2 hk6 (by simp)]
            rintro e w7 ⟨rfl, d7, f7⟩
            have D7 := Lib.hid d7; have F7 := Lib.hid f7; clear d7 f7 hk
            go_wp2_with fail
            go_roundg (30 - (j2 + 1))
            case measure => omega
            case rel => exact ⟨j2 + 1, _, by omega, by omega, rfl, by go_num, D7.out, HS2.out.1, HS2.out.2, by simp; omega, (HF2.out.trans' F6.out (by simp)).trans F7.out⟩
          | false =>
            have hlt' := H.out.lt
            have hp' := HP'.out
            have hp3 := D3.out.lt
            have DD := Lib.hid (D5'.out.fr HF2.out (by simp; omega) (by simp; omega))
            have hrdw : Rd wr (some ⟨bw, 0, none⟩) s.bs := fun _ => ⟨bw, 0, rfl, fun j x hx => by
              have := CW.out j x hx
              rw [Nat.zero_add, HF2.out.cell (p := ⟨bw, j, none⟩) (by have := F5.out.size; simp; omega) (by simp; omega), F5.out.cell (p := ⟨bw, j, none⟩) hbw2 (by simp)]; exact this⟩
            have hlen := H.out.len
            go_wp2_with fail
            go_cut [4] (fun v wc => v = .bool true ∧ Fr [] wr wc)
            case first =>
              have hcv4 : (convert 28 9 (.slice (some ⟨bw, 0, none⟩) 384 cw)).run Try.prog wr.drew = .ok (.string (str s.bs)) wr.drew := by
                have := run_conv_str (P := Try.prog) (w := wr.drew) Try.underlying28 Try.underlying5 Try.underlying9 hrdw.drew cw
                rwa [hlen] at this
              have HALL : Hid (Calls Try.prog 11 #[.pointer (some ⟨w1.heap.size + 1, 0, none⟩)] wr.drew (CopyAll wr s.bs bw cw)) := Lib.hid ((all_some wr.drew _ _ _ _ _ (DD.out.fr ((Fr.refl [] wr).drew) (by simp) (by simp)) 384 H.out.len (by omega)).mono (by
                rintro e w5 ⟨b5, c5, rfl, hc5, cell5, _, _, f5⟩
                have f5' : Fr [] wr w5 := ((Fr.refl [] wr).drew).trans f5
                have r5 : Rd w5 (some ⟨b5, 0, none⟩) s.bs := fun _ => ⟨b5, 0, rfl, fun j x hx => by have := cell5 j x hx; rw [Nat.zero_add]; exact this⟩
                have h1 := run_conv_str (P := Try.prog) (w := w5) Try.underlying28 Try.underlying5 Try.underlying9 r5 c5
                have h2 := run_conv_str (P := Try.prog) (w := w5) Try.underlying28 Try.underlying5 Try.underlying9 (hrdw.fr f5' (by simp)) cw
                rw [hlen] at h1 h2
                exact ⟨b5, c5, rfl, h1, h2, f5'⟩))
              clear hrdw hlen hlt' hp' hp3
              go_region_with (first
                | (go_at_call 11; refine HALL.out.mono ?_; rintro e w5 ⟨b5, c5, rfl, hcv5, hcvw5, f5⟩)
                | (go_at_call 13; refine (dead_calls w5 _ _ _ _ _ (DD.out.fr f5 (by simp) (by simp))).mono ?_; rintro e w6 ⟨rfl, rfl⟩))
              all_goals (go_wp2_with fail; go_meet; exact ⟨by simp, f5⟩)
            case rest =>
              obtain ⟨rfl, f9⟩ := hcut
              go_wp2_with fail
              go_ret
              exact ⟨rfl, (Fr.of_below (S := []) HBEL.out).trans f9⟩
end Go.Proofs.Ytccmaeifafcocaa
