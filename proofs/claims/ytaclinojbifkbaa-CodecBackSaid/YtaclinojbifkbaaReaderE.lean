/- The reader: rows of numbers. -/
import Derived.Test.YtaclinojbifkbaaReaderD
namespace Go.Proofs.Ytaclinojbifkbaa
open Go.RowKit

def i64s (l : List Int) : List Value := l.map fun x => .int .i64 x
theorem i64s_append (a b : List Int) : i64s (a ++ b) = i64s a ++ i64s b := by simp [i64s]
theorem infoI64 : (Try.prog.info? 2).map (fun i => (i.zero, i.size, i.bytes)) = some (some (.int .i64 0), 1, 8) := by kernel_rfl

/-- append of a number to a row of the call's own -/
theorem wpList_appI64 {ops : Array Oper} {rest : List Oper} {o : Oper} {a : Act} {w0 w : World} {Q : Exit → Act → World → Prop} (hgd : o.guard = none) (s x : Operand)
    (ho : o.op = .call { callee := .builtin .append, args := #[s, x], argTypes := #[40, 40] })
    (base : Nat) (A : Option Addr) (n c : Nat) (xs : List Int) (hs : a.eval s = .slice A n c) (hown : w0.ownsRow base 2 1 (.slice A n c) n (i64s xs))
    (y : Int) (hw : w = w0.alloc (.cells #[.int .i64 y] 2)) (hx : a.eval x = .slice (some ⟨w0.heap.size, 0, none⟩) 1 1) (hbd : n ≤ 1000000) (hbase : base ≤ w0.heap.size)
    (h : ∀ A' c' w', w'.ownsRow base 2 1 (.slice A' (n + 1) c') (n + 1) (i64s (xs ++ [y])) → Fr (Value.slice A n c).ownBlock.toList w0 w' → wpList Try.prog ops Q rest (a.put o.dst (.slice A' (n + 1) c')) w') :
    wpList Try.prog ops Q (o :: rest) a w := by
  subst hw
  have hfa := (Fr.refl (Value.slice A n c).ownBlock.toList w0).alloc (.cells #[.int .i64 y] 2)
  have hb := Blk.new w0 2 #[.int .i64 y]
  refine wpList_append hgd s x 40 ho base 2 (.int .i64 0) 1 8 Try.underlying40 infoI64 rfl (by decide) _ n (i64s xs) hs
    (own_fr hown ((Fr.refl [] w0).alloc _) (by simp)) _ 1 1 (i64s [y]) hx rfl
    (fun _ => ⟨_, rfl, fun j u hj => by
      rw [addr_add0, hb.cell]
      simpa [i64s] using hj⟩) (by simp [i64s, Value.oneCell']) (by unfold maxLen; omega) (by omega) (Nat.le_trans hbase (by simp)) ?_
  intro v' w' ho' _ hg hb'
  rw [← i64s_append] at ho'
  rcases ho'.2 with ⟨_, h0⟩ | ⟨g, cap, cur, rfl, _⟩
  · omega
  · exact h _ _ _ ho' (hfa.grown hg (fun k hk => .inl (by simp [hk])))

def RRow (w : World) (p g : Nat) (r : List Int) (l : List UInt8) (e : Ending) (w' : World) : Prop :=
  ∃ A c, e = .returned (.slice A r.length c) ∧ RdI w' A r ∧ (∀ b off, A = some ⟨b, off, none⟩ → w.heap.size ≤ b) ∧ IsR w' p g l 0 ∧ Fr [p] w w'

theorem own_rdI {w : World} {base n c : Nat} {A : Option Addr} {l : List Int} (h : w.ownsRow base 2 1 (.slice A n c) n (i64s l)) :
    l.length = n ∧ RdI w A l ∧ (∀ b off, A = some ⟨b, off, none⟩ → base ≤ b) := by
  have hn : l.length = n := by have := h.1; simp [i64s] at this; omega
  rcases h.2 with ⟨h1, h0⟩ | ⟨g, cap, cur, h1, hb, hg, hnc, _, hsz, htk⟩
  · injection h1 with h1 _ _
    subst h1
    exact ⟨hn, fun hl => by omega, by simp⟩
  · injection h1 with h1 _ _
    subst h1
    refine ⟨hn, fun _ => ⟨g, 0, rfl, fun j x hx => ?_⟩, fun b off hA => ?_⟩
    · have hj : j < l.length := (List.getElem?_eq_some_iff.1 hx).1
      have := h.cellAt j (by omega)
      rw [Nat.zero_add, this]
      simp [i64s, hx]
    · injection hA with hA
      injection hA with h2 _ _
      omega

theorem RdI.drewN {w : World} {A : Option Addr} {l : List Int} (h : RdI w A l) (n : Nat) : RdI (w.drewN n) A l := h.fr ((Fr.refl [] w).drewN n) (by simp)

theorem same_calls (w : World) (A B : Option Addr) (ca cb : Nat) (r : List Int) (m n : Nat) (hm : r.length = m) (hn : r.length = n) (hA : RdI w A r) (hB : RdI w B r) (hl : r.length ≤ 1000) :
    Calls Try.prog 30 #[.slice A m ca, .slice B n cb] w (fun e w' => e = .returned (.bool true) ∧ ∃ m, w' = w.drewN m) := by
  subst hm
  subst hn
  have HA := Lib.hid hA; have HB := Lib.hid hB
  clear hA hB
  go_enter Try.func30, Try.ntmps30
  go_wp2
  go_loopg [5] r.length (fun gg u wr => ∃ (k q : Nat), k ≤ r.length ∧ gg = r.length - k ∧ u = .int .i64 k ∧ wr = w.drewN q)
  case atStart => exact ⟨0, 0, by omega, by omega, rfl, rfl⟩
  case round =>
    obtain ⟨k, q, hk, rfl, rfl, hq⟩ := hrel
    have HQ := Lib.hid hq
    have hA2 : RdI wr A r := hq ▸ HA.out.drewN q
    have hB2 : RdI wr B r := hq ▸ HB.out.drewN q
    have HA2 := Lib.hid hA2; have HB2 := Lib.hid hB2
    clear hq hA2 hB2
    by_cases hlt : k < r.length
    · obtain ⟨bA, oA, hAe, hAc⟩ := HA2.out (by omega)
      obtain ⟨bB, oB, hBe, hBc⟩ := HB2.out (by omega)
      obtain ⟨y, hy⟩ : ∃ y, r[k]? = some y := ⟨r[k], by simp⟩
      have c1 := hAc k y hy
      have c2 := hBc k y hy
      have i1 := fun w => run_index_slice' (P := Try.prog) w Try.underlying40 size64 (n := r.length) (c := ca) hAe hlt
      have i2 := fun w => run_index_slice' (P := Try.prog) w Try.underlying40 size64 (n := r.length) (c := cb) hBe hlt
      simp only [Nat.mul_one] at i1 i2
      clear hAc hBc hy hAe hBe
      go_wp2_with fail
      go_quiet (fail)
      go_wp2_with fail
      go_roundg (r.length - (k + 1))
      case measure => omega
      case rel => exact ⟨k + 1, q + nq, by omega, rfl, by go_num, by rw [HQ.out, World.drewN_drewN]⟩
    · obtain rfl : k = r.length := by omega
      go_wp2_with fail
      go_ret
      exact ⟨rfl, q, HQ.out⟩

theorem rrow_ok (w : World) (p g : Nat) (r : List Int) (l : List UInt8) (h : IsR w p g (rowB r ++ l) 0) (hrb : ∀ x ∈ r, -9223372036854775808 ≤ x ∧ x ≤ 9223372036854775807) (hr : r.length ≤ 255) (hl : l.length + 8 * r.length + 1 ≤ 1000000000) (most : Int) (hmo : (r.length : Int) ≤ most) :
    Calls Try.prog 29 #[.pointer (some ⟨p, 0, none⟩), .int .i64 most] w (RRow w p g r l) := by
  have hx : (UInt8.ofNat r.length).toNat = r.length := by rw [UInt8.toNat_ofNat']; omega
  have hlen : (r.flatMap numB).length = 8 * r.length := nums_length r
  have HB := rbyte_ok w p g (UInt8.ofNat r.length) (r.flatMap numB ++ l) h (by rw [List.length_append, hlen]; omega)
  rw [hx] at HB
  have HB := Lib.hid HB
  have HRB := Lib.hid hrb
  have hp := h.lt
  have hg : g < w.heap.size := IsR.glt (x := UInt8.ofNat r.length) (l := r.flatMap numB ++ l) h
  have HPG := Lib.hid (And.intro hp hg)
  have hm : ¬ most < (r.length : Int) := by omega
  clear h hx hlen hrb hp hg
  go_enter Try.func29, Try.ntmps29
  go_wp2_with fail
  refine HB.out.mono ?_
  rintro e w1 ⟨rfl, i1, f1⟩
  have I1 := Lib.hid i1; have F1 := Lib.hid f1; clear i1 f1
  go_wp2_with fail
  go_loopg [6, 17] r.length (fun gg v n wr => ∃ (k : Nat) (A : Option Addr) (c : Nat), k ≤ r.length ∧ gg = r.length - k ∧ v = .slice A k c ∧ n = .int .i64 k ∧ IsR wr p g ((r.drop k).flatMap numB ++ l) 0 ∧ wr.ownsRow w.heap.size 2 1 (.slice A k c) k (i64s (r.take k)) ∧ Fr [p] w wr)
  case atStart => exact ⟨0, none, 0, by omega, by omega, rfl, rfl, I1.out, World.ownsRow_nil _ _ _ _, F1.out⟩
  case round =>
    obtain ⟨k, A, c, hk, rfl, rfl, rfl, hi, ho, hf⟩ := hrel
    have HI := Lib.hid hi; have HO := Lib.hid ho; have HF := Lib.hid hf
    clear hi ho hf
    by_cases hlt : k < r.length
    · obtain ⟨y, hy⟩ : ∃ y, r[k]? = some y := ⟨r[k], by simp⟩
      have hlen2 : ((r.drop (k + 1)).flatMap numB).length = 8 * (r.drop (k + 1)).length := nums_length _
      have hd : (r.drop k).flatMap numB ++ l = numB y ++ ((r.drop (k + 1)).flatMap numB ++ l) := by
        obtain ⟨h1, h2⟩ := List.getElem?_eq_some_iff.1 hy
        rw [List.drop_eq_getElem_cons h1, h2]; simp
      have ht : r.take (k + 1) = r.take k ++ [y] := by
        obtain ⟨h1, h2⟩ := List.getElem?_eq_some_iff.1 hy
        rw [List.take_succ_eq_append_getElem h1, h2]
      have hb := HRB.out y (List.mem_of_getElem? hy)
      have hi := HI.out
      rw [hd] at hi
      have HT := Lib.hid ht
      have HN := Lib.hid (rnum_ok wr p g y hb.1 hb.2 _ hi (by rw [List.length_append, hlen2, List.length_drop]; omega))
      clear hd ht hi hlen2 hy hb
      go_wp2_with fail
      refine HN.out.mono ?_
      rintro e w2 ⟨rfl, i2, f2⟩
      have e1 : w2.cell? ⟨p, 1, none⟩ = some (.int .i64 0) := by
        obtain ⟨⟨A', c', hb, _⟩, _⟩ := i2
        rw [hb.cell]; rfl
      have I2 := Lib.hid i2
      have O2 := Lib.hid (own_fr HO.out f2 (fun q hq => by have := (HO.out.lt q hq).1; have := HPG.out.1; simp; omega))
      have F2 := Lib.hid (HF.out.trans f2)
      clear i2 f2
      go_wp2_with (at_builtin; go_loud ((refine wpList_appI64 rfl (.tmp 26) (.tmp 28) rfl w.heap.size A k c (r.take k) rfl O2.out y rfl rfl (by omega) F2.out.size ?_); intro A3 c3 w3 o3 f3; have O3 := Lib.hid o3; have F3 := Lib.hid f3; clear o3 f3))
      have hob : ∀ x ∈ (Value.slice A k c).ownBlock.toList, w.heap.size ≤ x := fun x hx => by simp only [Option.mem_toList] at hx; exact (O2.out.lt x hx).1
      have h1 := HPG.out.1
      have h2 := HPG.out.2
      go_roundg (r.length - (k + 1))
      case measure => omega
      case rel => exact ⟨k + 1, A3, c3, by omega, rfl, rfl, by go_num, I2.out.fr F3.out (fun hm => by have := hob _ hm; omega) (fun hm => by have := hob _ hm; omega), by rw [HT.out]; exact O3.out, F2.out.trans' F3.out (fun x hx => .inr (hob x hx))⟩
    · obtain rfl : k = r.length := by omega
      have hd : (r.drop r.length).flatMap numB ++ l = l := by simp
      have hi := HI.out
      rw [hd] at hi
      have ho := HO.out
      rw [List.take_length] at ho
      obtain ⟨_, hr2, hb2⟩ := own_rdI ho
      have e1 : wr.cell? ⟨p, 1, none⟩ = some (.int .i64 0) := by
        obtain ⟨⟨A', c', hb, _⟩, _⟩ := hi
        rw [hb.cell]; rfl
      have HI2 := Lib.hid hi; have HR2 := Lib.hid hr2; have HB2 := Lib.hid hb2
      clear hd hi ho hr2 hb2
      go_wp2_with fail
      go_ret
      exact ⟨A, c, rfl, HR2.out, HB2.out, HI2.out, HF.out⟩
end Go.Proofs.Ytaclinojbifkbaa
