/- The document's bytes of parts. -/
import Derived.Test.YtaclinojbifkbaaCodecA
import Derived.Laws.OwnMore
namespace Go.Proofs.Ytaclinojbifkbaa
open Go.RowKit

/-- m bytes l, in a row that the call has made -/
def OwnN (w : World) (m : Nat) (l : List UInt8) (e : Ending) (w' : World) : Prop :=
  ∃ A c, e = .returned (.slice A m c) ∧ w'.ownsRow w.heap.size 5 1 (.slice A m c) m (u8s l) ∧ Fr [] w w'
theorem OwnN.of {w w' : World} {l : List UInt8} {v : Value} {n : Nat} (h : w'.ownsRow w.heap.size 5 1 v n (u8s l)) (hf : Fr [] w w') : OwnN w n l (.returned v) w' := by
  obtain ⟨A, c, rfl, h'⟩ := own_form h
  have : n = l.length := by have := h.1; simp at this; omega
  subst this
  exact ⟨A, c, rfl, h', hf⟩
/-- likewise, to be read -/
def RdN (w : World) (m : Nat) (l : List UInt8) (e : Ending) (w' : World) : Prop :=
  ∃ A c, e = .returned (.slice A m c) ∧ m ≤ c ∧ Rd w' A l ∧ (∀ b off, A = some ⟨b, off, none⟩ → w.heap.size ≤ b ∧ b < w'.heap.size) ∧ Fr [] w w'
theorem OwnN.rd {w w' : World} {m : Nat} {l : List UInt8} {e : Ending} (h : OwnN w m l e w') : RdN w m l e w' := by
  obtain ⟨A, c, rfl, ho, hf⟩ := h
  obtain ⟨A', c', e', _, hc, hrd, hb, _⟩ := own_rd ho
  injection e' with e1 e2 e3
  subst e1 e3
  exact ⟨A, c, rfl, by omega, hrd, fun b off hA => ⟨(hb b off hA).1, (hb b off hA).2.2.2⟩, hf⟩
theorem OwnN.rdd {w' : World} {base m c : Nat} {l : List UInt8} {A : Option Addr} (h : w'.ownsRow base 5 1 (.slice A m c) m (u8s l)) : Rd w' A l := by
  obtain ⟨A', c', e', _, _, hrd, _⟩ := own_rd h
  injection e' with e1 e2 e3
  subst e1
  exact hrd
theorem lit_own (w : World) (base : Nat) (hb : base ≤ w.heap.size) (l : List UInt8) (n : Nat) (hn : l.length = n) (hm : n ≤ 1000) : (w.alloc (.cells (u8s l).toArray 5)).ownsRow base 5 1 (.slice (some ⟨w.heap.size, 0, none⟩) n n) n (u8s l) := by
  have := World.ownsRow_lit (base := base) (e := 5) (size := 1) w (u8s l).toArray n hb (by unfold maxLen; omega) (by simp [hn])
  simpa using this

theorem u8n_wrap (x : Int) : IntKind.u8.wrap x = ((UInt8.ofNat (x % 256).toNat).toNat : Int) := by
  rw [UInt8.toNat_ofNat', IntKind.wrap_u8]
  omega

/-- what ref.Count tells of any number -/
def cntL (n : Int) : List UInt8 := [UInt8.ofNat ((wrap64 (n.tdiv 65536)).tmod 256 % 256).toNat, UInt8.ofNat ((wrap64 (n.tdiv 256)).tmod 256 % 256).toNat, UInt8.ofNat ((n.tmod 256) % 256).toNat]
theorem cntL_nat (n : Nat) (hn : n ≤ 1048576) : cntL n = countB n := by
  unfold cntL countB
  have e1 : (wrap64 ((n : Int).tdiv 65536)).tmod 256 % 256 = ((n / 65536 % 256 : Nat) : Int) := by
    rw [Int.tdiv_eq_ediv_of_nonneg (by omega), show wrap64 ((n : Int) / 65536) = (n : Int) / 65536 by unfold wrap64; omega, Int.tmod_eq_emod_of_nonneg (by omega)]; omega
  have e2 : (wrap64 ((n : Int).tdiv 256)).tmod 256 % 256 = ((n / 256 % 256 : Nat) : Int) := by
    rw [Int.tdiv_eq_ediv_of_nonneg (by omega), show wrap64 ((n : Int) / 256) = (n : Int) / 256 by unfold wrap64; omega, Int.tmod_eq_emod_of_nonneg (by omega)]; omega
  have e3 : ((n : Int).tmod 256) % 256 = ((n % 256 : Nat) : Int) := by
    rw [Int.tmod_eq_emod_of_nonneg (by omega)]; omega
  rw [e1, e2, e3]
  simp only [Int.toNat_natCast]
  congr 1
  · apply UInt8.toNat_inj.1; rw [UInt8.toNat_ofNat', UInt8.toNat_ofNat']; omega
  · congr 1
    · apply UInt8.toNat_inj.1; rw [UInt8.toNat_ofNat', UInt8.toNat_ofNat']; omega
    · congr 1
      apply UInt8.toNat_inj.1; rw [UInt8.toNat_ofNat', UInt8.toNat_ofNat']; omega

theorem rcnt_calls (w : World) (n : Int) : Calls Try.prog 18 #[.int .i64 n] w (OwnN w 3 (cntL n)) := by
  go_enter Try.func18, Try.ntmps18
  go_wp2_with fail
  go_ret
  refine OwnN.of ?_ ((Fr.refl [] w).alloc _)
  have := lit_own w w.heap.size (Nat.le_refl _) (cntL n) 3 rfl (by omega)
  have e : (u8s (cntL n)).toArray = #[.int .u8 ((wrap64 (n.tdiv 65536)).tmod 256 % 256), .int .u8 ((wrap64 (n.tdiv 256)).tmod 256 % 256), .int .u8 (n.tmod 256 % 256)] := by
    have hz : ∀ x : Int, (UInt8.ofNat (x % 256).toNat).toNat = x % 256 := fun x => by rw [UInt8.toNat_ofNat']; omega
    simp only [u8s, cntL, u8v, List.map_cons, List.map_nil, hz]
  rw [e] at this
  exact this

theorem rtruth_calls (w : World) (b : Bool) : Calls Try.prog 16 #[.bool b] w (OwnN w 1 [if b then 1 else 0]) := by
  cases b with
  | true =>
    go_enter Try.func16, Try.ntmps16
    go_wp2_with fail
    go_ret
    exact OwnN.of (lit_own w w.heap.size (Nat.le_refl _) [1] 1 rfl (by omega)) ((Fr.refl [] w).alloc _)
  | false =>
    go_enter Try.func16, Try.ntmps16
    go_wp2_with fail
    go_ret
    exact OwnN.of (lit_own w w.heap.size (Nat.le_refl _) [0] 1 rfl (by omega)) ((Fr.refl [] w).alloc _)

/-- the number's bytes, the last k of them -/
def numK (n : Int) (k : Nat) : List UInt8 := List.replicate (8 - k) 0 ++ (numB n).drop (8 - k)
theorem numK_zero (n : Int) : numK n 0 = List.replicate 8 0 := by simp [numK, numB_length]
theorem numK_eight (n : Int) : numK n 8 = numB n := by simp [numK]
theorem numK_succ (n : Int) (k : Nat) (hk : k < 8) : (numK n k).set (7 - k) (UInt8.ofNat (nu n / 256 ^ k)) = numK n (k + 1) := by
  have h : k = 0 ∨ k = 1 ∨ k = 2 ∨ k = 3 ∨ k = 4 ∨ k = 5 ∨ k = 6 ∨ k = 7 := by omega
  rcases h with rfl | rfl | rfl | rfl | rfl | rfl | rfl | rfl <;> simp [numK, numB, show List.range 8 = [0, 1, 2, 3, 4, 5, 6, 7] from rfl]
theorem numK_length (n : Int) (k : Nat) (hk : k ≤ 8) : (numK n k).length = 8 := by simp [numK, numB_length]; try omega

theorem wrap_nu (n : Int) (h1 : -9223372036854775808 ≤ n) (h2 : n ≤ 9223372036854775807) : IntKind.u64.wrap (IntKind.u64.wrap n + 9223372036854775808) = (nu n : Int) := by
  rw [IntKind.wrap_u64, IntKind.wrap_u64]
  unfold nu
  omega

set_option maxHeartbeats 1000000 in
theorem rnum_calls (w : World) (n : Int) (h1 : -9223372036854775808 ≤ n) (h2 : n ≤ 9223372036854775807) : Calls Try.prog 12 #[.int .i64 n] w (OwnN w 8 (numB n)) := by
  have hmk : ∀ w : World, (Instr.makeSlice 22 (.int .i64 8) (.int .i64 8)).run Try.prog w = .ok (.slice (some ⟨w.heap.size, 0, none⟩) 8 8) (w.alloc (.cells (zs 8).toArray 5)) := fun w => by
    have := run_make_n (P := Try.prog) 22 5 (.int .u8 0) 1 1 Try.underlying22 infoU8 8 (by omega) (by omega) w
    rw [show (Value.int IntKind.u8 0).cells = #[.int .u8 0] from rfl, madeCells_one] at this
    exact this
  go_enter Try.func12, Try.ntmps12
  go_wp2_with fail
  go_loopg [3, 5] 8 (fun gg u v wr => ∃ k, k ≤ 8 ∧ gg = 8 - k ∧ v = .int .i64 (7 - (k : Int)) ∧ u = .int .u64 ((nu n / 256 ^ k : Nat) : Int) ∧ Blk wr w.heap.size 5 (u8s (numK n k)).toArray ∧ Fr [] w wr)
  case atStart => exact ⟨0, by omega, by omega, rfl, by rw [wrap_nu n h1 h2]; simp, by rw [numK_zero]; exact Blk.new w _ _, (Fr.refl _ _).alloc _⟩
  case round =>
    obtain ⟨k, hk, rfl, rfl, rfl, hb, hf⟩ := hrel
    have HB := Lib.hid hb; have HF := Lib.hid hf
    by_cases hlt : k < 8
    · obtain ⟨u, hu⟩ : ∃ u, nu n / 256 ^ k = u := ⟨_, rfl⟩
      have hz := HB.out.frozen (7 - k)
      obtain ⟨x, hx⟩ : ∃ x, (numK n k)[7 - k]? = some x := ⟨(numK n k)[7 - k]'(by rw [numK_length n k hk]; omega), by simp⟩
      have hc : wr.cell? ⟨w.heap.size, 7 - k, none⟩ = some (u8v x) := by rw [hb.cell, List.getElem?_toArray, u8s_get, hx]; rfl
      have ht : (7 - (k : Int)).toNat = 7 - k := by omega
      have HU := Lib.hid hu
      rw [hu]
      clear hu hb hf hx
      go_wp2_with fail
      go_roundg (8 - (k + 1))
      case measure => omega
      case rel =>
        have hb2 := HB.out.set_ (7 - k) (u8v (UInt8.ofNat u))
        have e : ((u8s (numK n k)).toArray.setIfInBounds (7 - k) (u8v (UInt8.ofNat u))) = (u8s (numK n (k + 1))).toArray := by
          rw [← numK_succ n k hlt, HU.out]
          simp [u8s, List.map_set]
        rw [e] at hb2
        have e2 : ((UInt8.ofNat u).toNat : Int) = (u : Int) % 256 := by rw [UInt8.toNat_ofNat']; omega
        rw [u8v, e2] at hb2
        refine ⟨k + 1, by omega, rfl, by congr 1; omega, ?_, hb2, HF.out.setCell (.inr (Nat.le_refl _)) _⟩
        rw [Nat.pow_succ, ← Nat.div_div_eq_div_mul, HU.out, IntKind.wrap_u64]
        have hub : u < 18446744073709551616 := by
          have : nu n < 18446744073709551616 := by unfold nu; omega
          rw [← HU.out]; exact Nat.lt_of_le_of_lt (Nat.div_le_self _ _) this
        congr 1
        omega
    · obtain rfl : k = 8 := by omega
      clear hb hf
      go_wp2_with fail
      go_ret
      refine OwnN.of ?_ HF.out
      have hb := HB.out
      rw [numK_eight] at hb
      exact ⟨by simp [numB_length], .inr ⟨w.heap.size, 8, (u8s (numB n)).toArray, rfl, Nat.le_refl _, hb, Nat.le_refl _, by unfold maxLen; omega, by simp [numB_length], List.take_of_length_le (by simp [numB_length])⟩⟩

/-- append of bytes to a row of the call's own -/
theorem wpList_appU8 {ops : Array Oper} {rest : List Oper} {o : Oper} {a : Act} {w : World} {Q : Exit → Act → World → Prop} (hgd : o.guard = none) (s x : Operand)
    (ho : o.op = .call { callee := .builtin .append, args := #[s, x], argTypes := #[22, 22] })
    (base : Nat) (v : Value) (n : Nat) (xs : List UInt8) (hs : a.eval s = v) (hown : w.ownsRow base 5 1 v n (u8s xs))
    (A : Option Addr) (m c : Nat) (l : List UInt8) (hx : a.eval x = .slice A m c) (hl : l.length = m) (hr : Rd w A l) (hbd : n + m ≤ 1000000000) (hbase : base ≤ w.heap.size)
    (h : ∀ A' c' w', w'.ownsRow base 5 1 (.slice A' (n + m) c') (n + m) (u8s (xs ++ l)) → Fr v.ownBlock.toList w w' → ((Value.slice A' (n + m) c').ownBlock = v.ownBlock ∨ (Value.slice A' (n + m) c').ownBlock = some w.heap.size) → wpList Try.prog ops Q rest (a.put o.dst (.slice A' (n + m) c')) w') :
    wpList Try.prog ops Q (o :: rest) a w := by
  refine wpList_append hgd s x 22 ho base 5 (.int .u8 0) 1 1 Try.underlying22 infoU8 rfl (by decide) v n (u8s xs) hs hown A m c (u8s l) hx (by simp [hl]) hr.srcAll (u8s_one _) (by unfold maxLen; omega) (by omega) hbase ?_
  intro v' w' ho' _ hg hb
  rw [← u8s_append] at ho'
  obtain ⟨A1, c1, rfl, ho2⟩ := own_form ho'
  have e : (xs ++ l).length = n + m := by have := ho'.1; simp at this; simp [hl]; omega
  rw [e] at ho2 hb ⊢
  exact h A1 c1 w' ho2 ((Fr.refl _ _).grown hg (fun k hk => .inl (by simp [hk]))) hb

/-- the same inside a region that draws its order -/
theorem step_appU8 {ops : Array Oper} {o : Oper} {a : Act} {w : World} {K : Act → World → Prop} {Q : Exit → Act → World → Prop} {E : Prop} (hgd : o.guard = none) (s x : Operand)
    (ho : o.op = .call { callee := .builtin .append, args := #[s, x], argTypes := #[22, 22] })
    (base : Nat) (v : Value) (n : Nat) (xs : List UInt8) (hs : a.eval s = v) (hown : w.ownsRow base 5 1 v n (u8s xs))
    (A : Option Addr) (m c : Nat) (l : List UInt8) (hx : a.eval x = .slice A m c) (hl : l.length = m) (hr : Rd w A l) (hbd : n + m ≤ 1000000000) (hbase : base ≤ w.heap.size)
    (h : ∀ A' c' w', w'.ownsRow base 5 1 (.slice A' (n + m) c') (n + m) (u8s (xs ++ l)) → Fr v.ownBlock.toList w w' → ((Value.slice A' (n + m) c').ownBlock = v.ownBlock ∨ (Value.slice A' (n + m) c').ownBlock = some w.heap.size) → K (a.put o.dst (.slice A' (n + m) c')) w') :
    if Region.wanted o (yielded ops a.tmps) = true then Oper.wp Try.prog o a w K Q else E := by
  refine step_append (by simp [Region.wanted, hgd]) s x 22 ho base 5 (.int .u8 0) 1 1 Try.underlying22 infoU8 rfl (by decide) v n (u8s xs) hs hown A m c (u8s l) hx (by simp [hl]) hr.srcAll (u8s_one _) (by unfold maxLen; omega) (by omega) hbase ?_
  intro v' w' ho' _ hg hb
  rw [← u8s_append] at ho'
  obtain ⟨A1, c1, rfl, ho2⟩ := own_form ho'
  have e : (xs ++ l).length = n + m := by have := ho'.1; simp at this; simp [hl]; omega
  rw [e] at ho2 hb ⊢
  exact h A1 c1 w' ho2 ((Fr.refl _ _).grown hg (fun k hk => .inl (by simp [hk]))) hb

/-- a slice's bytes as a text -/
theorem conv_n {w : World} {A : Option Addr} {l : List UInt8} {m c : Nat} (hm : l.length = m) (h : Rd w A l) : (convert 22 9 (.slice A m c)).run Try.prog w = .ok (.string (str l)) w := by
  subst hm
  exact run_conv_str Try.underlying22 Try.underlying5 Try.underlying9 h c
/-- the bytes told, as a text, whatever older blocks turn -/
def BytesC (w0 w : World) (m : Nat) (l : List UInt8) (e : Ending) (w' : World) : Prop :=
  ∃ A c, e = .returned (.slice A m c) ∧ (∀ (S : List Nat) w2, (∀ x ∈ S, x < w0.heap.size) → Fr S w' w2 → (convert 22 9 (.slice A m c)).run Try.prog w2 = .ok (.string (str l)) w2) ∧ Fr [] w w'
theorem bytes_c (w0 w : World) (hw : w0.heap.size ≤ w.heap.size) (p : Nat) (ob : List Nat) (bs : List UInt8) (h : IsW w p ob bs 0) (m : Nat) (hm : bs.length = m) (hbd : m ≤ 1000000000) :
    Calls Try.prog 9 #[.pointer (some ⟨p, 0, none⟩)] w (BytesC w0 w m bs) := by
  refine (bytes_ok w p ob bs h m hm hbd).mono ?_
  rintro e w' ⟨A, c, rfl, _, hr, hb, _, hf⟩
  exact ⟨A, c, rfl, fun S w2 hS h2 => conv_n hm (hr.fr h2 (fun b off hA hm => by have := hS b hm; have := (hb b off hA).1; omega)), hf⟩

theorem rtext_calls (w : World) (A : Option Addr) (m c : Nat) (l : List UInt8) (hm : l.length = m) (hA : Rd w A l) (hbd : m ≤ 1048576) :
    Calls Try.prog 11 #[.slice A m c] w (OwnN w (3 + m) (countB m ++ l)) := by
  have HA := Lib.hid hA; have HC := Lib.hid (rcnt_calls w (m : Int))
  have HM := Lib.hid hm
  clear hA hm
  go_enter Try.func11, Try.ntmps11
  go_wp2_with (first
    | (go_at_call 18; (with_reducible refine HC.out.mono ?_); rintro e w1 ⟨A1, c1, rfl, ho, hf⟩; have HO := Lib.hid ho; have HF := Lib.hid hf; have HR := Lib.hid (HA.out.fr hf (by simp)); clear ho hf)
    | (at_builtin; refine wpList_appU8 rfl (.tmp 5) (.tmp 6) rfl w.heap.size _ 3 _ rfl HO.out _ _ _ _ rfl HM.out HR.out (by omega) HF.out.size ?_; intro A2 c2 w2 ho hf hb; have HO2 := Lib.hid ho; have HF2 := Lib.hid (HF.out.trans' hf (fun x hx => by simp only [Option.mem_toList] at hx; exact .inr (HO.out.lt x hx).1)); clear ho hf hb))
  go_ret
  have := HO2.out
  rw [cntL_nat m hbd] at this
  exact ⟨A2, c2, rfl, this, HF2.out⟩

theorem rrow_calls (w : World) (A : Option Addr) (m c : Nat) (r : List Int) (hm : r.length = m) (hr : RdI w A r) (hrb : ∀ x ∈ r, -9223372036854775808 ≤ x ∧ x ≤ 9223372036854775807) (hn : m ≤ 400) :
    Calls Try.prog 21 #[.slice A m c] w (OwnN w (1 + 8 * m) (UInt8.ofNat m :: r.flatMap numB)) := by
  subst hm
  have HR := Lib.hid hr; have HRB := Lib.hid hrb
  clear hr hrb
  go_enter Try.func21, Try.ntmps21
  go_wp2_with fail
  go_loopg [3, 4] r.length (fun gg v u wr => ∃ k A1 c1, k ≤ r.length ∧ gg = r.length - k ∧ u = .int .i64 k ∧ v = .slice A1 (1 + 8 * k) c1 ∧ wr.ownsRow w.heap.size 5 1 (.slice A1 (1 + 8 * k) c1) (1 + 8 * k) (u8s (UInt8.ofNat r.length :: (r.take k).flatMap numB)) ∧ Fr [] w wr)
  case atStart =>
    refine ⟨0, some ⟨w.heap.size, 0, none⟩, 1, by omega, by omega, rfl, rfl, ?_, (Fr.refl [] w).alloc _⟩
    have := lit_own w w.heap.size (Nat.le_refl _) [UInt8.ofNat r.length] 1 rfl (by omega)
    have e : (u8s [UInt8.ofNat r.length]).toArray = #[.int .u8 ((r.length : Int) % 256)] := by
      simp only [u8s, u8v, List.map_cons, List.map_nil]
      rw [show ((UInt8.ofNat r.length).toNat : Int) = (r.length : Int) % 256 by rw [UInt8.toNat_ofNat']; omega]
    rw [e] at this
    simpa using this
  case round =>
    obtain ⟨k, A1, c1, hk, rfl, rfl, rfl, ho, hf⟩ := hrel
    have HO := Lib.hid ho; have HF := Lib.hid hf
    clear ho hf
    by_cases hlt : k < r.length
    · obtain ⟨x, hx⟩ : ∃ x, r[k]? = some x := ⟨r[k], by simp⟩
      have hrr := HR.out.fr HF.out (by simp)
      obtain ⟨b, off, hA, hcell⟩ := hrr (by omega)
      have hc1 := hcell k x hx
      have hxb := HRB.out x (List.mem_of_getElem? hx)
      have hidx := fun w => run_index_slice' (P := Try.prog) w Try.underlying40 size64 (n := r.length) (c := c) hA hlt
      simp only [Nat.mul_one] at hidx
      have HN := Lib.hid (fun w => (rnum_calls w x hxb.1 hxb.2).mono fun e w' h => OwnN.rd h)
      have HX := Lib.hid hx
      clear hx hrr hcell hA
      go_wp2_with (first
        | (go_at_call 12; (with_reducible refine (HN.out _).mono ?_); rintro e w3 ⟨A3, c3, rfl, hc3, hrd3, _, hf3⟩; have HRD := Lib.hid hrd3; have HO3 := Lib.hid (own_fr HO.out hf3 (by simp)); have HF3 := Lib.hid (HF.out.trans hf3); clear hf3 hrd3)
        | (at_builtin; refine wpList_appU8 rfl (.tmp 15) (.tmp 20) rfl w.heap.size _ (1 + 8 * k) _ rfl HO3.out _ _ _ _ rfl (numB_length x) HRD.out (by omega) HF3.out.size ?_; intro A2 c2 w2 ho hf hb; have HO2 := Lib.hid ho; have HF2 := Lib.hid (HF3.out.trans' hf (fun x hx => by simp only [Option.mem_toList] at hx; exact .inr (HO3.out.lt x hx).1)); clear ho hf hb))
      go_roundg (r.length - (k + 1))
      case measure => omega
      case rel =>
        have e : r.take (k + 1) = r.take k ++ [x] := by
          obtain ⟨h1, h2⟩ := List.getElem?_eq_some_iff.1 HX.out
          rw [List.take_succ_eq_append_getElem h1, h2]
        have h := HO2.out
        rw [show 1 + 8 * k + 8 = 1 + 8 * (k + 1) by omega] at h ⊢
        refine ⟨k + 1, A2, c2, by omega, rfl, by go_num, rfl, ?_, HF2.out⟩
        rw [e, List.flatMap_append]
        simpa using h
    · obtain rfl : k = r.length := by omega
      go_wp2_with fail
      go_ret
      have := HO.out
      rw [List.take_length] at this
      exact ⟨_, _, rfl, this, HF.out⟩
end Go.Proofs.Ytaclinojbifkbaa
