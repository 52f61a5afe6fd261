/- The walk of CodecOwn. -/
import Derived.Test.YtaclinojbifkbaaCodecRef
namespace Go.Proofs.Ytaclinojbifkbaa
open Go.RowKit

theorem own_blk {w : World} {base : Nat} {A : Option Addr} {m c : Nat} {l : List UInt8} (h : w.ownsRow base 5 1 (.slice A m c) m (u8s l)) (h0 : A ≠ none) :
    ∃ g rest, A = some ⟨g, 0, none⟩ ∧ base ≤ g ∧ Blk w g 5 (u8s l ++ rest).toArray ∧ l.length = m := by
  have hl : l.length = m := by have := h.1; simp at this; omega
  rcases h.2 with ⟨h1, _⟩ | ⟨g, cap, cur, h1, hb, hg, hnc, _, hsz, htk⟩
  · injection h1 with h1 _ _; exact absurd h1 h0
  · injection h1 with h1 _ _
    refine ⟨g, cur.toList.drop m, h1, hb, ?_, hl⟩
    unfold Blk
    rw [hg, ← htk]
    simp

/-- append([]byte{}, ..): a copy of its own -/
theorem wpList_copyU8 {ops : Array Oper} {rest : List Oper} {o : Oper} {a : Act} {w : World} {Q : Exit → Act → World → Prop} (hgd : o.guard = none) (s x : Operand)
    (ho : o.op = .call { callee := .builtin .append, args := #[s, x], argTypes := #[22, 22] })
    (w0 : World) (g0 : Nat) (hs : a.eval s = .slice (some ⟨g0, 0, none⟩) 0 0) (hg0 : g0 = w0.heap.size) (hw : w = w0.alloc (.cells #[] 5))
    (A : Option Addr) (m c : Nat) (l : List UInt8) (hx : a.eval x = .slice A m c) (hl : l.length = m) (hr : Rd w0 A l) (hbd : m ≤ 1000000000)
    (h : ∀ g c' tl w', Blk w' g 5 (u8s l ++ tl).toArray → w0.heap.size ≤ g → Fr [] w0 w' → wpList Try.prog ops Q rest (a.put o.dst (.slice (some ⟨g, 0, none⟩) m c')) w') :
    wpList Try.prog ops Q (o :: rest) a w := by
  subst hw hg0
  have hf := (Fr.refl [] w0).alloc (.cells #[] 5)
  have hown := World.ownsRow_made (base := w0.heap.size) (e := 5) (size := 1) w0 #[] 0 (Nat.le_refl _) (by decide) (by simp)
  refine wpList_appU8 hgd s x ho w0.heap.size _ 0 [] hs (by simpa [u8s] using hown) A m c l hx hl (hr.fr hf (by simp)) (by omega) (by simp) ?_
  intro A' c' w' ho' hf' hb
  rw [Nat.zero_add] at ho' hb ⊢
  rw [List.nil_append] at ho'
  obtain ⟨g, tl, rfl, hg, hblk, _⟩ := own_blk ho' (by rintro rfl; simp [Value.ownBlock] at hb)
  exact h g c' tl w' hblk hg (hf.trans' hf' (fun x hx => by simp [Value.ownBlock] at hx; omega))

def BytesBlk (w : World) (m : Nat) (l : List UInt8) (e : Ending) (w' : World) : Prop :=
  ∃ g c tl, e = .returned (.slice (some ⟨g, 0, none⟩) m c) ∧ Blk w' g 5 (u8s l ++ tl).toArray ∧ w.heap.size ≤ g ∧ Fr [] w w'
theorem bytes_blk (w : World) (p : Nat) (ob : List Nat) (bs : List UInt8) (h : IsW w p ob bs 0) (m : Nat) (hm : bs.length = m) (h0 : 0 < m) (hbd : m ≤ 1000000000) :
    Calls Try.prog 9 #[.pointer (some ⟨p, 0, none⟩)] w (BytesBlk w m bs) := by
  subst hm
  refine (bytes_calls w p ob bs 0 h hbd).mono ?_
  rw [if_pos rfl]
  rintro e w' ⟨A, c, rfl, ho, hf⟩
  have hA : A ≠ none := by
    rintro rfl
    obtain ⟨A', c', e', _, _, hrd, _⟩ := own_rd ho
    injection e' with e1 _ _
    subst e1
    obtain ⟨_, _, hA, _⟩ := hrd h0
    cases hA
  obtain ⟨g, tl, rfl, hg, hb, _⟩ := own_blk ho hA
  exact ⟨g, c, tl, rfl, hb, hg, hf⟩

theorem rd_blk {w : World} {g : Nat} {l : List UInt8} {tl : List Value} {t : TypeId} (h : Blk w g t (u8s l ++ tl).toArray) : Rd w (some ⟨g, 0, none⟩) l := fun _ => ⟨g, 0, rfl, fun j x hx => by
  have hj : j < l.length := (List.getElem?_eq_some_iff.1 hx).1
  rw [h.cell, Nat.zero_add, List.getElem?_toArray, List.getElem?_append_left (by simpa using hj), u8s_get, hx]; rfl⟩
theorem set_blk {w : World} {g k : Nat} {l : List UInt8} {tl : List Value} {t : TypeId} (h : Blk w g t (u8s l ++ tl).toArray) (hk : k < l.length) (y : UInt8) : Blk (w.setCell ⟨g, k, none⟩ (u8v y)) g t (u8s (l.set k y) ++ tl).toArray := by
  have := h.set_ k (u8v y)
  have e : (u8s l ++ tl).toArray.setIfInBounds k (u8v y) = (u8s (l.set k y) ++ tl).toArray := by
    simp [u8s, List.set_append, hk]
  rwa [e] at this

set_option maxHeartbeats 1000000 in
theorem own_walk (w : World) (A B : Option Addr) (ca cb : Nat) (la lb : List UInt8) (n : Int) (hn1 : -9223372036854775808 ≤ n) (hn2 : n ≤ 9223372036854775807) (hA : Rd w A la) (hB : Rd w B lb) (hAl : la.length ≤ 300) (hBl : lb.length ≤ 300)
    :
    Calls Try.prog 3 #[.slice A la.length ca, .slice B lb.length cb, .int .i64 n] w (Quiet (.bool true) w) := by
  have HA := Lib.hid hA; have HB := Lib.hid hB; have HAL := Lib.hid (alive_calls w); have HBO := Lib.hid hB.blk_lt
  have a1 : (la.length : Int) ≤ 300 := by omega
  have b1 : (lb.length : Int) ≤ 300 := by omega
  clear hA hB
  go_enter Try.func3, Try.ntmps3
  go_wp2_with (first
    | (go_at_call 7; (with_reducible refine HAL.out.mono ?_); rintro e w1 ⟨rfl, f1⟩; have F1 := Lib.hid f1; have WR := Lib.hid (Wr.new f1); have FA := Lib.hid (show Fr [] w (w1.alloc (.cells #[.slice none 0 0, .int .i64 0] 27)) from f1.alloc _); clear f1)
    | (at_builtin; refine wpList_copyU8 rfl (.tmp 25) (.tmp 26) rfl (w1.alloc (.cells #[.slice none 0 0, .int .i64 0] 27)) _ rfl (by simp) rfl A la.length ca la rfl rfl (HA.out.fr FA.out (by simp)) (by omega) ?_; intro g2 c2 tl2 w2 hb2 hg2 hf2; have B2 := Lib.hid hb2; have W2 := Lib.hid (WR.out.fr0 hf2); have G2 := Lib.hid (show w1.heap.size < g2 by simp at hg2; omega); clear hb2 hg2 hf2))
  refine (W2.out.op (text_calls _ _ _ _ _ W2.out.is_ (some ⟨g2, 0, none⟩) la.length c2 la rfl (rd_blk B2.out) ?_ (by omega) ?_)).mono ?_
  · intro _ b off hb
    have := B2.out.lt; have := G2.out
    obtain ⟨rfl, _⟩ : g2 = b ∧ 0 = off := by simpa using hb
    exact ⟨by omega, by simp, by omega⟩
  · show 0 + la.length + 3 ≤ _
    omega
  rintro e w3 ⟨rfl, ob3, i3, k3, f3⟩
  have W3 := Lib.hid i3
  have B3 := Lib.hid (B2.out.fr f3 (by have := G2.out; simp; omega))
  have K3 := Lib.hid (show ∀ k ∈ ob3, g2 < k from fun k hk => by have := (k3 k hk).resolve_left (by simp); have := B2.out.lt; omega)
  clear i3 k3 f3
  go_wp2_with fail
  go_loopg [9] la.length (fun gg u wr => ∃ (k : Nat) (l' : List UInt8), k ≤ la.length ∧ l'.length = la.length ∧ gg = la.length - k ∧ u = .int .i64 k ∧ Blk wr g2 5 (u8s l' ++ tl2).toArray ∧ Fr [g2] w3 wr)
  case atStart => exact ⟨0, la, by omega, rfl, by omega, rfl, B3.out, Fr.refl _ _⟩
  case round =>
    obtain ⟨k, l', hk, hl', rfl, rfl, hb, hf⟩ := hrel
    have HB4 := Lib.hid hb; have HF4 := Lib.hid hf
    clear hf
    by_cases hlt : k < la.length
    · obtain ⟨x, hx⟩ : ∃ x, l'[k]? = some x := ⟨l'[k], by simp⟩
      have hc : wr.cell? ⟨g2, k, none⟩ = some (.int .u8 (x.toNat : Int)) := by
        rw [hb.cell, List.getElem?_toArray, List.getElem?_append_left (by simp; omega), u8s_get, hx]; rfl
      have hz := hb.frozen k
      have HL := Lib.hid hl'
      clear hb hx hl'
      go_wp2_with fail
      go_roundg (la.length - (k + 1))
      case measure => omega
      case rel =>
        have e : ((x.toNat : Int) + 1) % 256 = ((UInt8.ofNat (x.toNat + 1)).toNat : Int) := by rw [UInt8.toNat_ofNat']; omega
        rw [e]
        exact ⟨k + 1, l'.set k (UInt8.ofNat (x.toNat + 1)), by omega, by simpa using HL.out, rfl, by go_num, set_blk HB4.out (by rw [HL.out]; exact hlt) _, HF4.out.setCell (.inl (by simp)) _⟩
    · obtain rfl : k = la.length := by omega
      have W4 := Lib.hid (W3.out.fr HF4.out (by have := G2.out; simp; omega) (fun k hk => by have := K3.out k hk; simp; omega) (by have := G2.out; have := F1.out.size; simp; omega))
      have hm : ([] ++ (countB la.length ++ la)).length = 3 + la.length := by simp [countB]; omega
      have HM := Lib.hid hm
      clear hb hm
      go_wp2_with fail
      refine (bytes_blk wr _ _ _ W4.out.is_ (3 + la.length) HM.out (by omega) (by omega)).mono ?_
      rintro e w5 ⟨g5, c5, tl5, rfl, b5, hg5, f5⟩
      have B5 := Lib.hid b5; have W5 := Lib.hid (W4.out.fr0 f5)
      have G5 := Lib.hid (show w1.heap.size < g5 ∧ ∀ k ∈ ob3, k ≠ g5 from ⟨by have := W4.out.lt; omega, fun k hk => by have := (W4.out.obs k hk).2; omega⟩)
      clear b5 hg5 f5
      have hlb : ([] ++ (countB la.length ++ la)).length = 3 + la.length := HM.out
      have HM := Lib.hid hlb
      clear hlb
      go_wp2_with fail
      obtain ⟨wo, rfl⟩ : ∃ wo : World, wo = wr := ⟨_, rfl⟩
      go_loopg [11] (3 + la.length) (fun gg u wr => ∃ (k : Nat) (l' : List UInt8), k ≤ 3 + la.length ∧ l'.length = 3 + la.length ∧ gg = 3 + la.length - k ∧ u = .int .i64 k ∧ Blk wr g5 5 (u8s l' ++ tl5).toArray ∧ Fr [g5] w5 wr)
      case atStart => exact ⟨0, _, by omega, HM.out, by omega, rfl, B5.out, Fr.refl _ _⟩
      case round =>
        obtain ⟨k, l', hk, hl', rfl, rfl, hb, hf⟩ := hrel
        have HB6 := Lib.hid hb; have HF6 := Lib.hid hf
        clear hf
        by_cases hlt : k < 3 + la.length
        · obtain ⟨x, hx⟩ : ∃ x, l'[k]? = some x := ⟨l'[k], by simp⟩
          have hc : wr.cell? ⟨g5, k, none⟩ = some (.int .u8 (x.toNat : Int)) := by
            rw [hb.cell, List.getElem?_toArray, List.getElem?_append_left (by simp; omega), u8s_get, hx]; rfl
          have hz := hb.frozen k
          have HL := Lib.hid hl'
          clear hb hx hl'
          go_wp2_with fail
          go_roundg (3 + la.length - (k + 1))
          case measure => omega
          case rel =>
            have e : ((x.toNat : Int) - 1) % 256 = ((UInt8.ofNat (x.toNat + 255)).toNat : Int) := by rw [UInt8.toNat_ofNat']; omega
            rw [e]
            exact ⟨k + 1, l'.set k (UInt8.ofNat (x.toNat + 255)), by omega, by simpa using HL.out, rfl, by go_num, set_blk HB6.out (by rw [HL.out]; exact hlt) _, HF6.out.setCell (.inl (by simp)) _⟩
        · obtain rfl : k = 3 + la.length := by omega
          have W6 := Lib.hid (W5.out.fr HF6.out (by have := G5.out.1; simp; omega) (fun k hk => by have := G5.out.2 k hk; simp; omega) (by have := G5.out.1; have := F1.out.size; simp; omega))
          clear hb
          go_wp2_with fail
          refine (W6.out.op (num_calls wr _ _ _ _ W6.out.is_ n hn1 hn2 (by rw [HM.out]; omega))).mono ?_
          rintro e w7 ⟨rfl, ob7, i7, _, _⟩
          have W7 := Lib.hid i7
          clear i7
          go_wp2_with fail
          refine (W7.out.op (text_calls w7 _ _ _ _ W7.out.is_ B lb.length cb lb rfl (HB.out.fr W7.out.fr_ (by simp)) ?_ (by omega) ?_)).mono ?_
          · intro hl b off hb
            have h1 := HBO.out hl b off hb
            have h2 := F1.out.size
            have h3 := W7.out.fr_.size
            exact ⟨by omega, fun hm => by have := (W7.out.obs b hm).1; omega, by omega⟩
          · rw [List.length_append, HM.out, numB_length]; omega
          rintro e w8 ⟨rfl, ob8, i8, _, _⟩
          have hm8 : ([] ++ (countB la.length ++ la) ++ numB n ++ (countB lb.length ++ lb)).length = 3 + la.length + 8 + (3 + lb.length) := by rw [List.length_append, List.length_append, HM.out, numB_length, List.length_append]; simp [countB] <;> omega
          have W8 := Lib.hid i8
          have HM8 := Lib.hid hm8
          clear i8 hm8
          have hst := str_toList
          go_wp2_with fail
          refine (rtext_calls w8 A la.length ca la rfl (HA.out.fr W8.out.fr_ (by simp)) (by omega)).mono ?_
          rintro e w9 ⟨A9, c9, rfl, o9, f9⟩
          have W9 := Lib.hid (W8.out.fr0 f9); have O9 := Lib.hid o9; have F9 := Lib.hid f9; clear o9 f9
          go_wp2_with fail
          refine ((rnum_calls w9 n hn1 hn2).mono fun e w' h => OwnN.rd h).mono ?_
          rintro e w10 ⟨A10, c10, rfl, _, r10, _, f10⟩
          have W10 := Lib.hid (W9.out.fr0 f10); have O10 := Lib.hid (own_fr O9.out f10 (by simp)); have R10 := Lib.hid r10; have W10s := Lib.hid f10.size; clear r10 f10
          have C10 := Lib.hid (show ∀ x ∈ (Value.slice A9 (3 + la.length) c9).ownBlock.toList, w8.heap.size ≤ x from fun x hx => by simp only [Option.mem_toList] at hx; exact (O10.out.lt x hx).1)
          have heq : [] ++ (countB la.length ++ la) ++ numB n ++ (countB lb.length ++ lb) = countB la.length ++ la ++ numB n ++ (countB lb.length ++ lb) := by simp
          have HEQ := Lib.hid heq
          clear heq
          go_wp2_with (at_builtin; refine wpList_appU8 rfl (.tmp 64) (.tmp 66) rfl w8.heap.size _ _ _ rfl O10.out _ _ _ _ rfl (numB_length n) R10.out (by omega) (Nat.le_trans F9.out.size (by exact W10s.out)) ?_; intro A11 c11 w11 o11 f11 _; have Z11 := Lib.hid f11.size; have W11 := Lib.hid (W10.out.fr f11 (fun h => by have := C10.out _ h; have := W8.out.lt; omega) (fun k hk h => by have := C10.out _ h; have := (W8.out.obs k hk).2; omega) (fun x hx => Nat.le_trans W8.out.fr_.size (C10.out x hx))); have O11 := Lib.hid o11; clear o11 f11)
          have B11 : Hid (∀ x ∈ (Value.slice A11 (3 + la.length + 8) c11).ownBlock.toList, x < w11.heap.size) := Lib.hid (fun x hx => by simp only [Option.mem_toList] at hx; exact (O11.out.lt x hx).2)
          have WD := W11.out.fr0 ((Fr.refl [] w11).drew)
          have HBY := Lib.hid (bytes_c w11 w11.drew (Nat.le_refl _) _ _ _ WD.is_ _ HM8.out (by omega))
          have HTX := Lib.hid (fun (w12 : World) (f12 : Fr [] w11.drew w12) => (rtext_calls w12 B lb.length cb lb rfl (HB.out.fr (WD.fr_.trans f12) (by simp)) (by omega)).mono fun e w' h => OwnN.rd h)
          have hlen2 : (countB lb.length ++ lb).length = 3 + lb.length := by simp [countB] <;> omega
          have hlen3 : (countB la.length ++ la ++ numB n ++ (countB lb.length ++ lb)).length = 3 + la.length + 8 + (3 + lb.length) := by rw [← HEQ.out]; exact HM8.out
          have HL2 := Lib.hid hlen2; have HL3 := Lib.hid hlen3
          have DR := Lib.hid ((Fr.refl [] w11).drew)
          have SZ := Lib.hid (show w8.heap.size ≤ w11.heap.size from Nat.le_trans F9.out.size (Nat.le_trans W10s.out Z11.out))
          have hst := str_toList
          clear WD hlen2 hlen3
          go_region_law (first
            | (refine step_appU8 rfl (.tmp 71) (.tmp 73) rfl w8.heap.size _ _ _ rfl (own_fr O11.out (DR.out.trans (F12.out.trans F13.out)) (by simp)) _ _ _ _ rfl HL2.out R13.out (by omega) (Nat.le_trans SZ.out (DR.out.trans (F12.out.trans F13.out)).size) ?_; intro A14 c14 w14 o14 f14 _; have hcv14 := CV.out _ w14 B11.out ((F13.out.mono (by simp)).trans f14); rw [HEQ.out] at hcv14; have hcr := conv_n (c := c14) HL3.out (OwnN.rdd o14); have F14 := Lib.hid f14; clear o14 f14)
            | (go_simp; go_at_call 9; refine HBY.out.mono ?_; rintro e w12 ⟨A12, c12, rfl, cv, f12⟩; have CV := Lib.hid cv; have hcv12 := cv [] w12 (by simp) (Fr.refl _ _); rw [HEQ.out] at hcv12; have F12 := Lib.hid f12; clear cv f12)
            | (go_simp; go_at_call 11; refine (HTX.out w12 F12.out).mono ?_; rintro e w13 ⟨A13, c13, rfl, _, r13, _, f13⟩; have hcv13 := CV.out [] w13 (by simp) f13; rw [HEQ.out] at hcv13; have F13 := Lib.hid f13; have R13 := Lib.hid r13; clear f13 r13))
          all_goals (go_wp2_with fail; go_ret; exact ⟨rfl, (((W11.out.fr_.trans DR.out).trans F12.out).trans F13.out).trans' F14.out (fun x hx => .inr (by simp only [Option.mem_toList] at hx; exact Nat.le_trans W8.out.fr_.size (O11.out.lt x hx).1))⟩)

theorem own_long (w : World) (A B : Option Addr) (ca cb n1 n2 : Nat) (n : Int) (h : 300 < n1 ∨ 300 < n2) :
    Calls Try.prog 3 #[.slice A n1 ca, .slice B n2 cb, .int .i64 n] w (Quiet (.bool true) w) := by
  have HAL := Lib.hid (alive_calls w)
  by_cases h1 : 300 < n1
  · have h1' : (300 : Int) < (n1 : Int) := by omega
    clear h
    go_enter Try.func3, Try.ntmps3
    go_wp2_with (go_at_call 7; (with_reducible refine HAL.out.mono ?_); rintro e w1 ⟨rfl, f1⟩; have F1 := Lib.hid f1; clear f1)
    go_ret
    exact ⟨rfl, F1.out⟩
  · have h2 : (300 : Int) < (n2 : Int) := by omega
    have h1' : (n1 : Int) ≤ 300 := by omega
    clear h h1
    go_enter Try.func3, Try.ntmps3
    go_wp2_with (go_at_call 7; (with_reducible refine HAL.out.mono ?_); rintro e w1 ⟨rfl, f1⟩; have F1 := Lib.hid f1; clear f1)
    go_ret
    exact ⟨rfl, F1.out⟩
theorem own_all (w : World) (A B : Option Addr) (ca cb : Nat) (la lb : List UInt8) (n : Int) (hn1 : -9223372036854775808 ≤ n) (hn2 : n ≤ 9223372036854775807) (hA : Rd w A la) (hB : Rd w B lb) :
    Calls Try.prog 3 #[.slice A la.length ca, .slice B lb.length cb, .int .i64 n] w (Quiet (.bool true) w) := by
  by_cases h : 300 < la.length ∨ 300 < lb.length
  · exact own_long w A B ca cb _ _ n h
  · exact own_walk w A B ca cb la lb n hn1 hn2 hA hB (by omega) (by omega)
end Go.Proofs.Ytaclinojbifkbaa
