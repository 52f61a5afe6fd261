/- The texts WalU WalV of this seat, one behind another; what each says stands at its head. -/
import Derived.Test.YtmmjihkcofgmmaaGi
import Derived.BigGuardPart

/- The log: the next record. -/
namespace Go.Proofs.Ytmmjihkcofgmmaa
open Go.RowKit
set_option linter.unusedVariables false

/-- the k-th sector -/
def secAt (bs : List UInt8) (k : Nat) : List UInt8 := (bs.drop (64 * k)).take 64
/-- the bytes of j sectors from the k-th on, where a record's text may stand -/
def bodyAt (bs : List UInt8) (k j : Nat) : List UInt8 := ((secAt bs k).drop 12).take 19 ++ (bs.drop (64 * (k + 1))).take (64 * (j - 1))
def cntAt (bs : List UInt8) (k : Nat) : Nat := cnt ((secAt bs k).getD 1 0) ((secAt bs k).getD 2 0) ((secAt bs k).getD 3 0)
def textAt (bs : List UInt8) (k : Nat) : List UInt8 := (bodyAt bs k (needN (cntAt bs k))).take (cntAt bs k)
/-- the next record -/
def nextR (n : Nat) (bs : List UInt8) (T : List (List UInt8)) (k : Nat) : Bool × Int × List (List UInt8) × Nat :=
  if k = n then (false, 0, T, k)
  else if (secAt bs k).getD 63 0 ≠ 1 then (false, 0, T, k)
  else if 100000 < cntAt bs k then (false, 31, T, k)
  else if n < k + needN (cntAt bs k) then (false, 31, T, k)
  else if firstB T.length (textAt bs k) (sumR (lastR T) T.length (textAt bs k)) ≠ secAt bs k then (false, 31, T, k)
  else (true, 0, T ++ [textAt bs k], k + needN (cntAt bs k))
theorem secAt_length {bs : List UInt8} {n k : Nat} (h : bs.length = 64 * n) (hk : k < n) : (secAt bs k).length = 64 := by
  unfold secAt
  rw [List.length_take, List.length_drop]
  omega
theorem bodyAt_length {bs : List UInt8} {n k j : Nat} (h : bs.length = 64 * n) (hk : k < n) (hj : 1 ≤ j) (hkj : k + j ≤ n) : (bodyAt bs k j).length = 19 + 64 * (j - 1) := by
  unfold bodyAt
  rw [List.length_append, List.length_take, List.length_drop, List.length_take, List.length_drop, secAt_length h hk]
  omega
theorem bodyAt_succ {bs : List UInt8} {n k j : Nat} (h : bs.length = 64 * n) (hj : 1 ≤ j) (hkj : k + j < n) : bodyAt bs k (j + 1) = bodyAt bs k j ++ secAt bs (k + j) := by
  unfold bodyAt secAt
  rw [List.append_assoc]
  congr 1
  obtain ⟨i, rfl⟩ : ∃ i, j = i + 1 := ⟨j - 1, by omega⟩
  simp only [Nat.add_sub_cancel]
  rw [show 64 * (i + 1) = 64 * i + 64 by omega, List.take_add, List.drop_drop, show 64 * (k + 1) + 64 * i = 64 * (k + (i + 1)) by omega]
theorem rd_alive {s : Dk.DS} {n k : Nat} (hd : s.dead = false) (hk : k < n) : s.rd n (k : Int) = (secAt s.bs k, 0) := by
  unfold Dk.DS.rd secAt
  rw [hd, if_neg (by simp), if_neg (by omega), Int.toNat_natCast, Nat.mul_comm]
/-- a sector's bytes, told in a row of the call's own -/
def ReadN (w : World) (t : List UInt8) (e : Ending) (w' : World) : Prop :=
  ∃ A c, e = .returned (.tuple #[.slice A 64 c, .int .i64 0]) ∧ w'.ownsRow w.heap.size 5 1 (.slice A 64 c) 64 (u8s t) ∧ Fr [] w w'
theorem read_n (w : World) (p g n cap : Nat) (s : Dk.DS) (h : Dk.IsDisk w p g n cap s) (hd : s.dead = false) (k : Nat) (hk : k < n) :
    Calls Try.prog 44 #[.pointer (some ⟨p, 0, none⟩), .int .i64 (k : Int)] w (ReadN w (secAt s.bs k)) := by
  refine (Dk.read_calls w p g n cap s h (k : Int)).mono fun e w' hr => ?_
  rw [rd_alive hd hk] at hr
  obtain ⟨A, c, h1, h2, h3⟩ := hr
  have h64 := secAt_length h.len hk
  simp only [h64] at h1 h2
  exact ⟨A, c, h1, h2, h3⟩
/-- what the next record's reading leaves -/
def NextP (w : World) (x p g n cap : Nat) (s : Dk.DS) (lv : Value) (D : List Nat) (base : Nat) (R : Bool × Int × List (List UInt8) × Nat) (e : Ending) (w' : World) : Prop :=
  ∃ lv', e = .returned (.tuple #[.bool R.1, .int .i64 R.2.1]) ∧ IsLog w' x p g n cap s lv' R.2.2.1 R.2.2.2 false D base ∧ Fr (x :: lv.ownBlock.toList) w w' ∧ ∀ q, lv'.ownBlock = some q → lv.ownBlock = some q ∨ w.heap.size ≤ q
theorem NextP.same {w w' : World} {x p g n cap : Nat} {s : Dk.DS} {lv : Value} {T : List (List UInt8)} {k : Nat} {D : List Nat} {base : Nat} {e : Ending} {mo : Bool} {er : Int} (h : IsLog w x p g n cap s lv T k false D base) (hf : Fr [] w w') (he : e = .returned (.tuple #[.bool mo, .int .i64 er])) : NextP w x p g n cap s lv D base (mo, er, T, k) e w' :=
  ⟨lv, he, h.fr hf, hf.mono (by simp), fun q hq => .inl hq⟩
set_option maxRecDepth 100000 in
theorem next_end (w : World) (x p g n cap : Nat) (s : Dk.DS) (lv : Value) (T : List (List UInt8)) (D : List Nat) (base : Nat) (h : IsLog w x p g n cap s lv T n false D base) :
    Calls Try.prog 34 #[.pointer (some ⟨x, 0, none⟩)] w (NextP w x p g n cap s lv D base (nextR n s.bs T n)) := by
  have hR : nextR n s.bs T n = (false, 0, T, n) := by unfold nextR; rw [if_pos rfl]
  rw [hR]
  have H := Lib.hid h
  have HFR := free_calls w x p g n cap s lv n (lastR T) false h.head h.disk h.disk.few h.hk
  rw [Int.sub_self] at HFR
  clear h hR
  go_enter Try.func34, Try.ntmps34
  go_wp2_with (go_at_call 23; (refine HFR.mono ?_); rintro e w2 ⟨rfl, f2⟩; have F2 := Lib.hid f2; clear f2)
  go_ret2
  exact NextP.same H.out F2.out rfl
theorem ex_cut2 (A : Option Addr) (c : Nat) (h : 64 ≤ c) : ∃ A', (∀ w, (Instr.sliceAt 26 (.slice A 64 c) (some (.int .i64 12)) (some (.int .i64 31)) none).run Try.prog w = .ok (.slice A' 19 (c - 12)) w) ∧ ∀ w b, b.length = 64 → Rd w A b → Rd w A' ((b.drop 12).take 19) := by
  refine ⟨if c = 12 then A else A.map (·.add 12), fun w => ?_, fun w b hb hr => (hr.drop 12 c (by omega) (by omega)).take' 19⟩
  rw [run_sliceAt_slice w 26 _ _ _ _ (by kernel_rfl), run_slice_lh w 26 A 64 c (by kernel_rfl) .i64 .i64 12 31 (by omega) (by omega) (by omega)]
  have hsz : ∀ w, (sizeOf (Try.prog.elem 26)).run Try.prog w = .ok 1 w := fun w => by kernel_rfl
  rw [hsz]
  simp only [Result.andThen, sliced]
  rfl
theorem ex_slice2 {P : Program} {a : Act} {o : Oper} {t : TypeId} {x y z : Operand} {u i j v : Value} {w : World} (ho : o.op = .slice t x (some y) (some z) none) (hx : a.eval x = u) (hy : a.eval y = i) (hz : a.eval z = j) (h : (Instr.sliceAt t u (some i) (some j) none).run P w = .ok v w) : (execOp a.eval o).run P w = .ok (.value v) w := by
  unfold execOp
  simp [ho, hx, hy, hz, h]
theorem count_ok (w : World) (p g : Nat) (x y z : UInt8) (l : List UInt8) (m : Nat) (h : IsR w p g (x :: y :: z :: l) 0) (hl : l.length + 3 ≤ 1000000000) (hm : cnt x y z = m) (hmx : m ≤ 100000) :
    Calls Try.prog 47 #[.pointer (some ⟨p, 0, none⟩), .int .i64 100000] w (RPost w p g (.int .i64 (m : Int)) l 0) := by
  have := rcount_calls w p g x y z l h hl 100000
  rwa [if_pos (by omega), hm] at this
theorem count_bad (w : World) (p g : Nat) (x y z : UInt8) (l : List UInt8) (m : Nat) (h : IsR w p g (x :: y :: z :: l) 0) (hl : l.length + 3 ≤ 1000000000) (hm : cnt x y z = m) (hmx : 100000 < m) :
    Calls Try.prog 47 #[.pointer (some ⟨p, 0, none⟩), .int .i64 100000] w (RPost w p g (.int .i64 0) l 10) := by
  have := rcount_calls w p g x y z l h hl 100000
  rwa [if_neg (by omega)] at this
set_option maxRecDepth 100000 in
set_option maxHeartbeats 4000000 in
theorem next_more (w : World) (x p g n cap : Nat) (s : Dk.DS) (lv : Value) (T : List (List UInt8)) (k : Nat) (D : List Nat) (base : Nat) (h : IsLog w x p g n cap s lv T k false D base) (hd : s.dead = false) (hk : k < n) :
    Calls Try.prog 34 #[.pointer (some ⟨x, 0, none⟩)] w (NextP w x p g n cap s lv D base (nextR n s.bs T k)) := by
  obtain ⟨V1, V2, V3, rfl⟩ := h.rows.slice
  obtain rfl := h.rows.len
  have HFR := Lib.hid (fun W (f : Fr [] w W) => free_calls W x p g n cap s _ k (lastR T) false (h.fr f).head (h.fr f).disk h.disk.few h.hk)
  have HFR0 := Lib.hid (HFR.out w (Fr.refl [] w))
  have H := Lib.hid h
  have hlen := secAt_length h.disk.len hk
  have few := h.disk.few
  obtain ⟨sec, hsec⟩ : ∃ sec, secAt s.bs k = sec := ⟨_, rfl⟩
  rw [hsec] at hlen
  have HRD := Lib.hid (fun W (f : Fr [] w W) => (hsec ▸ read_n W p g n cap s (h.fr f).disk hd k hk : Calls Try.prog 44 #[.pointer (some ⟨p, 0, none⟩), .int .i64 (k : Int)] W (ReadN W sec)))
  have HSEC := Lib.hid hsec
  have HDE := Lib.hid hd
  have HK := Lib.hid hk
  obtain ⟨R, hR⟩ : ∃ R, nextR n s.bs T k = R := ⟨_, rfl⟩
  rw [hR]
  obtain ⟨q0, q1, q2, q3, rest, rfl⟩ : ∃ q0 q1 q2 q3 rest, sec = q0 :: q1 :: q2 :: q3 :: rest := by
    match sec, hlen with
    | q0 :: q1 :: q2 :: q3 :: rest, _ => exact ⟨q0, q1, q2, q3, rest, rfl⟩
  have hcn : cntAt s.bs k = cnt q1 q2 q3 := by unfold cntAt; rw [hsec]; rfl
  obtain ⟨m, hm⟩ : ∃ m, cnt q1 q2 q3 = m := ⟨_, rfl⟩
  rw [hm] at hcn
  have HCN := Lib.hid hcn; have HM := Lib.hid hm
  obtain ⟨q63, hq63⟩ : ∃ q63, (q0 :: q1 :: q2 :: q3 :: rest)[63]? = some q63 := ⟨_, List.getElem?_eq_getElem (by omega)⟩
  have hR1 : R = if q63 ≠ 1 then (false, 0, T, k) else if 100000 < m then (false, 31, T, k) else if n < k + needN m then (false, 31, T, k)
      else if firstB T.length (textAt s.bs k) (sumR (lastR T) T.length (textAt s.bs k)) ≠ q0 :: q1 :: q2 :: q3 :: rest then (false, 31, T, k) else (true, 0, T ++ [textAt s.bs k], k + needN m) := by
    rw [← hR]
    unfold nextR
    rw [if_neg (by omega), hcn, hsec, List.getD_eq_getElem?_getD, hq63]
    rfl
  have HR1 := Lib.hid hR1
  have HQ := Lib.hid hq63; have HLEN := Lib.hid hlen
  have hkI : (0 : Int) ≤ (k : Int) ∧ (k : Int) < (n : Int) ∧ (n : Int) ≤ 4096 := by omega
  clear h hsec hd hk hR hcn hm hR1 hq63 hlen
  go_enter Try.func34, Try.ntmps34
  go_upto_region 3 with (go_at_call 23; (refine HFR0.out.mono ?_); rintro e w2 ⟨rfl, f2⟩; have F2 := Lib.hid f2; clear f2)
  have H2 := Lib.hid (H.out.fr F2.out)
  have hS0 : LogB w2.drew x p (.slice V1 T.length V3) (k : Int) (lastR T) false := H2.out.head
  refine sqs_begin (fun w9 => LogB w9 x p (.slice V1 T.length V3) (k : Int) (lastR T) false) (by kernel_rfl) ?_
  refine sqs_take (i := 0) (v := (.pointer (some ⟨x, 0, none⟩))) (d := 18) rfl (by kernel_rfl) (by kernel_rfl) (by kernel_rfl) (by kernel_rfl) (by kernel_rfl) (fun _ _ _ h => h) ?_ (by assumption) ?_
  · intro w9 h9; kernel_rfl
  try simp only [Act.put, List.setIfInBounds_toArray, List.set_cons_zero, List.set_cons_succ]
  refine sqs_take (i := 1) (v := (.pointer (some ⟨x, 0, none⟩))) (d := 19) rfl (by kernel_rfl) (by kernel_rfl) (by kernel_rfl) (by kernel_rfl) (by kernel_rfl) (fun _ _ _ h => h) ?_ (by assumption) ?_
  · intro w9 h9; kernel_rfl
  try simp only [Act.put, List.setIfInBounds_toArray, List.set_cons_zero, List.set_cons_succ]
  refine sqs_take (i := 2) (v := (.pointer (some ⟨x, 0, none⟩))) (d := 20) rfl (by kernel_rfl) (by kernel_rfl) (by kernel_rfl) (by kernel_rfl) (by kernel_rfl) (fun _ _ _ h => h) ?_ (by assumption) ?_
  · intro w9 h9; kernel_rfl
  try simp only [Act.put, List.setIfInBounds_toArray, List.set_cons_zero, List.set_cons_succ]
  refine sqs_take (i := 3) (v := (.pointer (some ⟨p, 0, none⟩))) (d := 21) rfl (by kernel_rfl) (by kernel_rfl) (by kernel_rfl) (by kernel_rfl) (by kernel_rfl) (fun _ _ _ h => h) ?_ (by assumption) ?_
  · intro w9 h9; exact exec_load_one rfl (by kernel_rfl) (.pointer (some ⟨p, 0, none⟩)) (.pointer 60) w9 (LogB.c0 h9) Try.underlying28 rfl
  try simp only [Act.put, List.setIfInBounds_toArray, List.set_cons_zero, List.set_cons_succ]
  refine sqs_take (i := 4) (v := (.pointer (some ⟨x, 0, none⟩))) (d := 22) rfl (by kernel_rfl) (by kernel_rfl) (by kernel_rfl) (by kernel_rfl) (by kernel_rfl) (fun _ _ _ h => h) ?_ (by assumption) ?_
  · intro w9 h9; kernel_rfl
  try simp only [Act.put, List.setIfInBounds_toArray, List.set_cons_zero, List.set_cons_succ]
  refine sqs_take (i := 5) (v := (.pointer (some ⟨x, 0, none⟩))) (d := 23) rfl (by kernel_rfl) (by kernel_rfl) (by kernel_rfl) (by kernel_rfl) (by kernel_rfl) (fun _ _ _ h => h) ?_ (by assumption) ?_
  · intro w9 h9; kernel_rfl
  try simp only [Act.put, List.setIfInBounds_toArray, List.set_cons_zero, List.set_cons_succ]
  refine sqs_take (i := 6) (v := (.pointer (some ⟨x, 2, none⟩))) (d := 24) rfl (by kernel_rfl) (by kernel_rfl) (by kernel_rfl) (by kernel_rfl) (by kernel_rfl) (fun _ _ _ h => h) ?_ (by assumption) ?_
  · intro w9 h9; kernel_rfl
  try simp only [Act.put, List.setIfInBounds_toArray, List.set_cons_zero, List.set_cons_succ]
  refine sqs_take (i := 7) (v := (.int .i64 (k : Int))) (d := 25) rfl (by kernel_rfl) (by kernel_rfl) (by kernel_rfl) (by kernel_rfl) (by kernel_rfl) (fun _ _ _ h => h) ?_ (by assumption) ?_
  · intro w9 h9; exact exec_load_one rfl (by kernel_rfl) (.int .i64 (k : Int)) (.int .i64) w9 (LogB.c2 h9) Try.underlying3 rfl
  try simp only [Act.put, List.setIfInBounds_toArray, List.set_cons_zero, List.set_cons_succ]
  refine sqs_only (i := 8) rfl (by kernel_rfl) (by kernel_rfl) ?_
  have hr8 := fun (a₀ : Act) (o₀ : Oper) (K₀ : Act → World → Prop) (Q₀ : Exit → Act → World → Prop) => @sq_call Try.prog Q₀ a₀ o₀ w2.drew K₀ (ReadN w2.drew (q0 :: q1 :: q2 :: q3 :: rest)) 44 #[.pointer (some ⟨p, 0, none⟩), .int .i64 (k : Int)] 26
  refine hr8 _ _ _ _ ?_ ?_ ?_ ?_
  · kernel_rfl
  · kernel_rfl
  · exact (HRD.out w2.drew (F2.out.trans (Fr.refl [] w2).drew))
  rintro e w3 ⟨A1, c1, rfl, ho3, f3⟩
  have hS3 : LogB w3 x p (.slice V1 T.length V3) (k : Int) (lastR T) false := LogB.fr hS0 f3 (by simp)
  refine ⟨_, rfl, hS3, ?_⟩
  clear hr8
  try simp only [Act.put, List.setIfInBounds_toArray, List.set_cons_zero, List.set_cons_succ]
  refine sqs_take (i := 9) (v := (.tuple #[.slice A1 64 c1, .int .i64 0])) (d := 17) rfl (by kernel_rfl) (by kernel_rfl) (by kernel_rfl) (by kernel_rfl) (by kernel_rfl) (fun _ _ _ h => h) ?_ (by assumption) ?_
  · intro w9 h9; kernel_rfl
  try simp only [Act.put, List.setIfInBounds_toArray, List.set_cons_zero, List.set_cons_succ]
  refine sqs_take (i := 10) (v := (.slice A1 64 c1)) (d := 27) rfl (by kernel_rfl) (by kernel_rfl) (by kernel_rfl) (by kernel_rfl) (by kernel_rfl) (fun _ _ _ h => h) ?_ (by assumption) ?_
  · intro w9 h9; kernel_rfl
  try simp only [Act.put, List.setIfInBounds_toArray, List.set_cons_zero, List.set_cons_succ]
  refine sqs_take (i := 11) (v := (.int .i64 0)) (d := 28) rfl (by kernel_rfl) (by kernel_rfl) (by kernel_rfl) (by kernel_rfl) (by kernel_rfl) (fun _ _ _ h => h) ?_ (by assumption) ?_
  · intro w9 h9; kernel_rfl
  try simp only [Act.put, List.setIfInBounds_toArray, List.set_cons_zero, List.set_cons_succ]
  refine sqs_take (i := 12) (v := (.slice A1 64 c1)) (d := 4) rfl (by kernel_rfl) (by kernel_rfl) (by kernel_rfl) (by kernel_rfl) (by kernel_rfl) (fun _ _ _ h => h) ?_ (by assumption) ?_
  · intro w9 h9; kernel_rfl
  try simp only [Act.put, List.setIfInBounds_toArray, List.set_cons_zero, List.set_cons_succ]
  refine sqs_take (i := 13) (v := (.int .i64 0)) (d := 5) rfl (by kernel_rfl) (by kernel_rfl) (by kernel_rfl) (by kernel_rfl) (by kernel_rfl) (fun _ _ _ h => h) ?_ (by assumption) ?_
  · intro w9 h9; kernel_rfl
  try simp only [Act.put, List.setIfInBounds_toArray, List.set_cons_zero, List.set_cons_succ]
  refine wpAnyH_done (by kernel_rfl) ?_ _
  have F3 := Lib.hid ((F2.out.trans (Fr.refl [] w2).drew).trans f3)
  have HO3 := Lib.hid ho3
  clear hS3 hS0 f3 ho3
  obtain ⟨A', c', hv, _, hA, hcell⟩ := own_cells HO3.out
  injection hv with hv1 _ hv3
  subst hv1 hv3
  obtain ⟨g1, rfl, hg1, hg2⟩ := hA (by omega)
  obtain ⟨g1', hg1', _, hc63⟩ := hcell 63 (u8v q63) (by rw [u8s_get, HQ.out]; rfl)
  injection hg1' with hg1'
  injection hg1' with hg1'
  subst hg1'
  have hix := fun w' => ix_sl0 (P := Try.prog) (b := g1) (off := 0) (n := 64) (c := c1) (j := 63) Try.underlying26 Dk.sizeU8 (by omega) w'
  simp only [Nat.zero_add] at hix
  have HNW := Lib.hid (newr_calls w3 (some ⟨g1, 0, none⟩) 64 c1 _ HLEN.out (own_rn HO3.out) (by omega))
  have HG1 := Lib.hid hg1
  clear hA hcell hg1 hg2
  by_cases h63 : q63 = 1
  · have hb63 : ((q63.toNat : Int) != 1) = false := by subst h63; rfl
    by_cases hmx : 100000 < m
    · have hmx' := hmx
      have hRR : R = (false, 31, T, k) := by rw [HR1.out, if_neg (by simpa using h63), if_pos hmx]
      clear hmx
      go_wp2_with (first
        | go_big_skip
        | (go_at_call 45; (refine HNW.out.mono ?_); rintro e w4 ⟨rp, rg, rfl, hr4, hrp, hrg, f4⟩; have F4 := Lib.hid f4; have HB4 := Lib.hid (rbyte_ok w4 rp rg q0 _ hr4 (by have := HLEN.out; simp at this ⊢; omega)); have HRP := Lib.hid hrp; clear hr4 hrp hrg f4)
        | (go_at_call 46; (refine HB4.out.mono ?_); rintro e w5 ⟨rfl, hr5, f5⟩; have F5 := Lib.hid (F4.out.trans' f5 (fun q hq => .inr (by simp at hq; subst hq; exact HRP.out))); have HC5 := Lib.hid (count_bad w5 rp rg q1 q2 q3 rest m hr5 (by have := HLEN.out; simp at this; omega) HM.out hmx'); clear hr5 f5)
        | (go_at_call 47; (refine HC5.out.mono ?_); rintro e w6 ⟨rfl, hr6, f6⟩; have F6 := Lib.hid (F5.out.trans' f6 (fun q hq => .inr (by simp at hq; subst hq; exact HRP.out))); have HE6 := Lib.hid (rerr_calls w6 rp rg rest _ hr6); have HFR6 := Lib.hid (HFR.out w6 (F3.out.trans F6.out)); clear hr6 f6)
        | (go_at_call 48; (refine HE6.out.mono ?_); rintro e w' ⟨rfl, rfl⟩)
        | (go_at_call 9; (refine (need_nat _ m (by omega)).mono ?_); rintro e w' ⟨rfl, rfl⟩)
        | (go_at_call 23; (refine HFR6.out.mono ?_); rintro e w7 ⟨rfl, f7⟩; have F7 := Lib.hid (F6.out.trans f7); clear f7))
      go_ret2
      try rw [hRR]
      exact NextP.same H.out (F3.out.trans F6.out) rfl
    · have hmx' : m ≤ 100000 := by omega
      by_cases hroom : n < k + needN m
      · have hI2 : (n : Int) - (k : Int) < (needN m : Int) := by omega
        have hRR : R = (false, 31, T, k) := by rw [HR1.out, if_neg (by simpa using h63), if_neg hmx, if_pos hroom]
        clear hmx hroom
        go_wp2_with (first
        | go_big_skip
        | (go_at_call 45; (refine HNW.out.mono ?_); rintro e w4 ⟨rp, rg, rfl, hr4, hrp, hrg, f4⟩; have F4 := Lib.hid f4; have HB4 := Lib.hid (rbyte_ok w4 rp rg q0 _ hr4 (by have := HLEN.out; simp at this ⊢; omega)); have HRP := Lib.hid hrp; clear hr4 hrp hrg f4)
        | (go_at_call 46; (refine HB4.out.mono ?_); rintro e w5 ⟨rfl, hr5, f5⟩; have F5 := Lib.hid (F4.out.trans' f5 (fun q hq => .inr (by simp at hq; subst hq; exact HRP.out))); have HC5 := Lib.hid (count_ok w5 rp rg q1 q2 q3 rest m hr5 (by have := HLEN.out; simp at this; omega) HM.out hmx'); clear hr5 f5)
        | (go_at_call 47; (refine HC5.out.mono ?_); rintro e w6 ⟨rfl, hr6, f6⟩; have F6 := Lib.hid (F5.out.trans' f6 (fun q hq => .inr (by simp at hq; subst hq; exact HRP.out))); have HE6 := Lib.hid (rerr_calls w6 rp rg rest _ hr6); have HFR6 := Lib.hid (HFR.out w6 (F3.out.trans F6.out)); clear hr6 f6)
        | (go_at_call 48; (refine HE6.out.mono ?_); rintro e w' ⟨rfl, rfl⟩)
        | (go_at_call 9; (refine (need_nat _ m (by omega)).mono ?_); rintro e w' ⟨rfl, rfl⟩)
        | (go_at_call 23; (refine HFR6.out.mono ?_); rintro e w7 ⟨rfl, f7⟩; have F7 := Lib.hid (F6.out.trans f7); clear f7))
        go_ret2
        try rw [hRR]
        exact NextP.same H.out (F3.out.trans F7.out) rfl
      · have hI2 : (needN m : Int) ≤ (n : Int) - (k : Int) := by omega
        have hRR : R = if firstB T.length (textAt s.bs k) (sumR (lastR T) T.length (textAt s.bs k)) ≠ q0 :: q1 :: q2 :: q3 :: rest then (false, 31, T, k) else (true, 0, T ++ [textAt s.bs k], k + needN m) := by rw [HR1.out, if_neg (by simpa using h63), if_neg hmx, if_neg hroom]
        have HRR := Lib.hid hRR
        have HROOM := Lib.hid hroom
        clear hmx hRR hroom
        go_upto_region 11 with (first
        | go_big_skip
        | (go_at_call 45; (refine HNW.out.mono ?_); rintro e w4 ⟨rp, rg, rfl, hr4, hrp, hrg, f4⟩; have F4 := Lib.hid f4; have HB4 := Lib.hid (rbyte_ok w4 rp rg q0 _ hr4 (by have := HLEN.out; simp at this ⊢; omega)); have HRP := Lib.hid hrp; clear hr4 hrp hrg f4)
        | (go_at_call 46; (refine HB4.out.mono ?_); rintro e w5 ⟨rfl, hr5, f5⟩; have F5 := Lib.hid (F4.out.trans' f5 (fun q hq => .inr (by simp at hq; subst hq; exact HRP.out))); have HC5 := Lib.hid (count_ok w5 rp rg q1 q2 q3 rest m hr5 (by have := HLEN.out; simp at this; omega) HM.out hmx'); clear hr5 f5)
        | (go_at_call 47; (refine HC5.out.mono ?_); rintro e w6 ⟨rfl, hr6, f6⟩; have F6 := Lib.hid (F5.out.trans' f6 (fun q hq => .inr (by simp at hq; subst hq; exact HRP.out))); have HE6 := Lib.hid (rerr_calls w6 rp rg rest _ hr6); have HFR6 := Lib.hid (HFR.out w6 (F3.out.trans F6.out)); clear hr6 f6)
        | (go_at_call 48; (refine HE6.out.mono ?_); rintro e w' ⟨rfl, rfl⟩)
        | (go_at_call 9; (refine (need_nat _ m (by omega)).mono ?_); rintro e w' ⟨rfl, rfl⟩)
        | (go_at_call 23; (refine HFR6.out.mono ?_); rintro e w7 ⟨rfl, f7⟩; have F7 := Lib.hid (F6.out.trans f7); clear f7))
        obtain ⟨A12, hA12⟩ := ex_cut2 (some ⟨g1, 0, none⟩) c1 (own_le HO3.out)
        have h12 := hA12.2 w3 _ HLEN.out (own_rn HO3.out)
        have HCL := Lib.hid ((clone_n w7 A12 19 (c1 - 12) _ (by rw [List.length_take, List.length_drop, HLEN.out]; omega) (h12.fr F7.out (by simp)) (by omega)).mono fun e w' h => OwnBytes.toN (n := 19) (by rw [List.length_take, List.length_drop, HLEN.out]; omega) h)
        have HA12 := Lib.hid hA12.1
        have hNpos := needN_pos m hmx'
        obtain ⟨N, hN⟩ : ∃ N, needN m = N := ⟨_, rfl⟩
        have hmN : m ≤ 19 + 64 * (N - 1) := by
          rw [← hN, needN_le m hmx']
          omega
        rw [hN] at hNpos hI2
        have HROOM' := Lib.hid (show k + N ≤ n by have := HROOM.out; omega)
        have HRR' := HRR.out
        rw [hN] at HRR'
        have HNN := Lib.hid (fun W => (hN ▸ need_nat W m hmx' : Calls Try.prog 9 #[.int .i64 (m : Int)] W (Same (.int .i64 (N : Int)) W)))
        have HMN := Lib.hid hmN
        have HN := Lib.hid hN
        have hNI : (1 : Int) ≤ (N : Int) := by omega
        clear hA12 h12 hN hmN hNpos
        go_wp2_with (first
          | (refine wpList_wanted (v := .slice A12 19 (c1 - 12)) (by kernel_rfl) (ex_slice2 (t := 26) (x := .tmp 57) (u := .slice (some ⟨g1, 0, none⟩) 64 c1) (i := .int .i64 12) (j := .int .i64 31) rfl (by kernel_rfl) (by kernel_rfl) (by kernel_rfl) (HA12.out _)) ?_)
          | (go_at_call 35; (refine HCL.out.mono ?_); rintro e w8 ⟨A8, c8, rfl, ho8, f8⟩; have HO8 := Lib.hid (own_mono ho8 F7.out.size); have F8 := Lib.hid (F7.out.trans f8); clear ho8 f8))
        go_loopg [8, 9] (N - 1) (fun gg v u wr => ∃ (j L : Nat) (Aj : Option Addr) (cj : Nat), 1 ≤ j ∧ j ≤ N ∧ gg = N - j ∧ u = .int .i64 (j : Int) ∧ L = 19 + 64 * (j - 1) ∧ v = .slice Aj L cj ∧ wr.ownsRow w3.heap.size 5 1 (.slice Aj L cj) L (u8s (bodyAt s.bs k j)) ∧ Fr [] w3 wr)
        case atStart =>
          refine ⟨1, 19, A8, c8, by omega, by omega, by omega, rfl, by omega, rfl, ?_, F8.out⟩
          have : bodyAt s.bs k 1 = ((q0 :: q1 :: q2 :: q3 :: rest).drop 12).take 19 := by
            unfold bodyAt
            rw [HSEC.out]
            simp
          rw [this]
          exact HO8.out
        case round =>
          obtain ⟨j, L, Aj, cj, hj1, hjN, rfl, rfl, hL, rfl, hoj, hfj⟩ := hrel
          have HOJ := Lib.hid hoj; have HFJ := Lib.hid hfj; have HL := Lib.hid hL
          have HJ := Lib.hid (H.out.fr (F3.out.trans hfj))
          have hjI : (1 : Int) ≤ (j : Int) ∧ (j : Int) ≤ (N : Int) := by omega
          clear hoj hfj hL
          by_cases hlt : j < N
          · have hltI : (j : Int) < (N : Int) := by omega
            have HRJ := Lib.hid (read_n wr.drew p g n cap s (HJ.out.fr (Fr.refl [] wr).drew).disk HDE.out (k + j) (by have := HROOM'.out; omega))
            go_wp2_with (go_at_call 9; (refine (HNN.out _).mono ?_); rintro e w' ⟨rfl, rfl⟩)
            have hS0 : LogB wr.drew x p (.slice V1 T.length V3) (k : Int) (lastR T) false := HJ.out.head
            refine sqs_begin (fun w9 => LogB w9 x p (.slice V1 T.length V3) (k : Int) (lastR T) false) (by kernel_rfl) ?_
            refine sqs_take (i := 0) (v := (.pointer (some ⟨x, 0, none⟩))) (d := 67) rfl (by kernel_rfl) (by kernel_rfl) (by kernel_rfl) (by kernel_rfl) (by kernel_rfl) (fun _ _ _ h => h) ?_ (by assumption) ?_
            · intro w9 h9; kernel_rfl
            try simp only [Act.put, List.setIfInBounds_toArray, List.set_cons_zero, List.set_cons_succ]
            refine sqs_take (i := 1) (v := (.pointer (some ⟨x, 0, none⟩))) (d := 68) rfl (by kernel_rfl) (by kernel_rfl) (by kernel_rfl) (by kernel_rfl) (by kernel_rfl) (fun _ _ _ h => h) ?_ (by assumption) ?_
            · intro w9 h9; kernel_rfl
            try simp only [Act.put, List.setIfInBounds_toArray, List.set_cons_zero, List.set_cons_succ]
            refine sqs_take (i := 2) (v := (.pointer (some ⟨x, 0, none⟩))) (d := 69) rfl (by kernel_rfl) (by kernel_rfl) (by kernel_rfl) (by kernel_rfl) (by kernel_rfl) (fun _ _ _ h => h) ?_ (by assumption) ?_
            · intro w9 h9; kernel_rfl
            try simp only [Act.put, List.setIfInBounds_toArray, List.set_cons_zero, List.set_cons_succ]
            refine sqs_take (i := 3) (v := (.pointer (some ⟨p, 0, none⟩))) (d := 70) rfl (by kernel_rfl) (by kernel_rfl) (by kernel_rfl) (by kernel_rfl) (by kernel_rfl) (fun _ _ _ h => h) ?_ (by assumption) ?_
            · intro w9 h9; exact exec_load_one rfl (by kernel_rfl) (.pointer (some ⟨p, 0, none⟩)) (.pointer 60) w9 (LogB.c0 h9) Try.underlying28 rfl
            try simp only [Act.put, List.setIfInBounds_toArray, List.set_cons_zero, List.set_cons_succ]
            refine sqs_take (i := 4) (v := (.pointer (some ⟨x, 0, none⟩))) (d := 71) rfl (by kernel_rfl) (by kernel_rfl) (by kernel_rfl) (by kernel_rfl) (by kernel_rfl) (fun _ _ _ h => h) ?_ (by assumption) ?_
            · intro w9 h9; kernel_rfl
            try simp only [Act.put, List.setIfInBounds_toArray, List.set_cons_zero, List.set_cons_succ]
            refine sqs_take (i := 5) (v := (.pointer (some ⟨x, 0, none⟩))) (d := 72) rfl (by kernel_rfl) (by kernel_rfl) (by kernel_rfl) (by kernel_rfl) (by kernel_rfl) (fun _ _ _ h => h) ?_ (by assumption) ?_
            · intro w9 h9; kernel_rfl
            try simp only [Act.put, List.setIfInBounds_toArray, List.set_cons_zero, List.set_cons_succ]
            refine sqs_take (i := 6) (v := (.pointer (some ⟨x, 2, none⟩))) (d := 73) rfl (by kernel_rfl) (by kernel_rfl) (by kernel_rfl) (by kernel_rfl) (by kernel_rfl) (fun _ _ _ h => h) ?_ (by assumption) ?_
            · intro w9 h9; kernel_rfl
            try simp only [Act.put, List.setIfInBounds_toArray, List.set_cons_zero, List.set_cons_succ]
            refine sqs_take (i := 7) (v := (.int .i64 (k : Int))) (d := 74) rfl (by kernel_rfl) (by kernel_rfl) (by kernel_rfl) (by kernel_rfl) (by kernel_rfl) (fun _ _ _ h => h) ?_ (by assumption) ?_
            · intro w9 h9; exact exec_load_one rfl (by kernel_rfl) (.int .i64 (k : Int)) (.int .i64) w9 (LogB.c2 h9) Try.underlying3 rfl
            try simp only [Act.put, List.setIfInBounds_toArray, List.set_cons_zero, List.set_cons_succ]
            refine sqs_take (i := 8) (v := (.int .i64 (j : Int))) (d := 75) rfl (by kernel_rfl) (by kernel_rfl) (by kernel_rfl) (by kernel_rfl) (by kernel_rfl) (fun _ _ _ h => h) ?_ (by assumption) ?_
            · intro w9 h9; kernel_rfl
            try simp only [Act.put, List.setIfInBounds_toArray, List.set_cons_zero, List.set_cons_succ]
            refine sqs_take (i := 9) (v := (.int .i64 ((k + j : Nat) : Int))) (d := 76) rfl (by kernel_rfl) (by kernel_rfl) (by kernel_rfl) (by kernel_rfl) (by kernel_rfl) (fun _ _ _ h => h) ?_ (by assumption) ?_
            · intro w9 h9; go_simp; rw [IntKind.wrap_i64] <;> omega
            try simp only [Act.put, List.setIfInBounds_toArray, List.set_cons_zero, List.set_cons_succ]
            refine sqs_only (i := 10) rfl (by kernel_rfl) (by kernel_rfl) ?_
            have hr10 := fun (a₀ : Act) (o₀ : Oper) (K₀ : Act → World → Prop) (Q₀ : Exit → Act → World → Prop) => @sq_call Try.prog Q₀ a₀ o₀ wr.drew K₀ (ReadN wr.drew (secAt s.bs (k + j))) 44 #[.pointer (some ⟨p, 0, none⟩), .int .i64 ((k + j : Nat) : Int)] 77
            refine hr10 _ _ _ _ ?_ ?_ ?_ ?_
            · kernel_rfl
            · kernel_rfl
            · exact HRJ.out
            rintro e w9 ⟨A9, c9, rfl, ho9, f9⟩
            have hS3 : LogB w9 x p (.slice V1 T.length V3) (k : Int) (lastR T) false := LogB.fr hS0 f9 (by simp)
            refine ⟨_, rfl, hS3, ?_⟩
            clear hr10
            try simp only [Act.put, List.setIfInBounds_toArray, List.set_cons_zero, List.set_cons_succ]
            refine sqs_take (i := 11) (v := (.tuple #[.slice A9 64 c9, .int .i64 0])) (d := 66) rfl (by kernel_rfl) (by kernel_rfl) (by kernel_rfl) (by kernel_rfl) (by kernel_rfl) (fun _ _ _ h => h) ?_ (by assumption) ?_
            · intro w9 h9; kernel_rfl
            try simp only [Act.put, List.setIfInBounds_toArray, List.set_cons_zero, List.set_cons_succ]
            refine sqs_take (i := 12) (v := (.slice A9 64 c9)) (d := 78) rfl (by kernel_rfl) (by kernel_rfl) (by kernel_rfl) (by kernel_rfl) (by kernel_rfl) (fun _ _ _ h => h) ?_ (by assumption) ?_
            · intro w9 h9; kernel_rfl
            try simp only [Act.put, List.setIfInBounds_toArray, List.set_cons_zero, List.set_cons_succ]
            refine sqs_take (i := 13) (v := (.int .i64 0)) (d := 79) rfl (by kernel_rfl) (by kernel_rfl) (by kernel_rfl) (by kernel_rfl) (by kernel_rfl) (fun _ _ _ h => h) ?_ (by assumption) ?_
            · intro w9 h9; kernel_rfl
            try simp only [Act.put, List.setIfInBounds_toArray, List.set_cons_zero, List.set_cons_succ]
            refine sqs_take (i := 14) (v := (.slice A9 64 c9)) (d := 10) rfl (by kernel_rfl) (by kernel_rfl) (by kernel_rfl) (by kernel_rfl) (by kernel_rfl) (fun _ _ _ h => h) ?_ (by assumption) ?_
            · intro w9 h9; kernel_rfl
            try simp only [Act.put, List.setIfInBounds_toArray, List.set_cons_zero, List.set_cons_succ]
            refine sqs_take (i := 15) (v := (.int .i64 0)) (d := 11) rfl (by kernel_rfl) (by kernel_rfl) (by kernel_rfl) (by kernel_rfl) (by kernel_rfl) (fun _ _ _ h => h) ?_ (by assumption) ?_
            · intro w9 h9; kernel_rfl
            try simp only [Act.put, List.setIfInBounds_toArray, List.set_cons_zero, List.set_cons_succ]
            refine wpAnyH_done (by kernel_rfl) ?_ _
            have F9 := Lib.hid ((HFJ.out.trans (Fr.refl [] wr).drew).trans f9)
            have HO9 := Lib.hid ho9
            have HOR := Lib.hid (own_fr (own_fr HOJ.out (Fr.refl [] wr).drew (by simp)) f9 (by simp))
            clear hS3 hS0 f9 ho9
            go_wp2_with (refine appU8 rfl (.tmp 83) (.tmp 84) rfl w3.heap.size (.slice Aj L cj) L (bodyAt s.bs k j) rfl HOR.out A9 64 c9 (secAt s.bs (k + j)) rfl (secAt_length H.out.disk.len (by have := HROOM'.out; omega)) (own_rn HO9.out) (by have := HL.out; have := HROOM'.out; omega) F9.out.size ?_; intro A' c' w' ho' f' _; have HO' := Lib.hid ho'; have F' := Lib.hid (F9.out.trans' f' (fun q hq => .inr (HOR.out.lt q (by simpa using hq)).1)); clear ho' f')
            go_roundg (N - (j + 1))
            case measure => omega
            case rel => exact ⟨j + 1, L + 64, A', c', by omega, by omega, rfl, by go_num, by have := HL.out; omega, rfl, by rw [bodyAt_succ H.out.disk.len hj1 (by have := HROOM'.out; omega)]; exact HO'.out, F'.out⟩
          · obtain rfl : j = N := by omega
            have hmL : (m : Int) ≤ (L : Int) := by have := HMN.out; have := HL.out; omega
            have hmc : (m : Int) ≤ (cj : Int) := by have := own_le HOJ.out; omega
            have hm0 : (0 : Int) ≤ (m : Int) := by omega
            go_upto_region 20 with (go_at_call 9; (refine (HNN.out _).mono ?_); rintro e w' ⟨rfl, rfl⟩)
            obtain ⟨b, hb⟩ : ∃ b, (bodyAt s.bs k j).take m = b := ⟨_, rfl⟩
            have hbt : textAt s.bs k = b := by
              unfold textAt
              rw [HCN.out, HN.out]
              exact hb
            have hbl : b.length = m := by
              rw [← hb, List.length_take, bodyAt_length H.out.disk.len HK.out hj1 HROOM'.out]
              have := HMN.out
              omega
            have hbr : Rd wr Aj b := hb ▸ (own_rn HOJ.out).take' m
            obtain ⟨sum, hsum⟩ : ∃ sum, sumR (lastR T) T.length b = sum := ⟨_, rfl⟩
            have hsl : sum.length = 32 := hsum ▸ sumR_length _ _ _
            have HTL := Lib.hid (show T.length ≤ 4096 by have := H.out.hT; have := H.out.hk; omega)
            have HSM := Lib.hid (fun W (f : Fr [] wr W) => (hsum ▸ sumOf_calls W (lastR T) (lastR_length T) T.length (by have := HTL.out; omega) Aj m cj b hbl (hbr.fr f (by simp)) (by omega) : Calls Try.prog 36 #[.agg (u8s (lastR T)).toArray, .int .i64 (T.length : Int), .slice Aj m cj] W (Agg (.agg (u8s sum).toArray) W)))
            have HFC := Lib.hid (fun W (f : Fr [] wr W) => first_calls W sum hsl T.length (by have := HTL.out; omega) Aj m cj b hbl (hbr.fr f (by simp)) (by omega) (by omega))
            have HDS := Lib.hid (digF sum hsl)
            have HDL := Lib.hid (digF (lastR T) (lastR_length T))
            have HXL := Lib.hid (Nat.lt_of_lt_of_le (H.out.hD x H.out.hx) (F3.out.trans HFJ.out).size)
            have HBL := Lib.hid hbl; have HBR := Lib.hid hbr; have HSS := Lib.hid (And.intro hsum hsl)
            rw [hbt, hsum] at HRR'
            have HR2 := Lib.hid HRR'
            clear hb hbt hbl hbr hsum hsl HRR'
            go_cut [13] (fun v wc => ∃ y, v = .pointer (some ⟨y, 0, none⟩) ∧ Blk wc y 41 (u8s sum).toArray ∧ Fr [] wr wc ∧ wr.heap.size ≤ y)
            case first =>
              have hS0 : LogB wr.drew x p (.slice V1 T.length V3) (k : Int) (lastR T) false := HJ.out.head
              refine sqs_begin (fun w9 => LogB w9 x p (.slice V1 T.length V3) (k : Int) (lastR T) false) (by kernel_rfl) ?_
              refine sqs_take (i := 0) (v := (.pointer (some ⟨x, 0, none⟩))) (d := 89) rfl (by kernel_rfl) (by kernel_rfl) (by kernel_rfl) (by kernel_rfl) (by kernel_rfl) (fun _ _ _ h => h) ?_ (by assumption) ?_
              · intro w9 h9; kernel_rfl
              try simp only [Act.put, List.setIfInBounds_toArray, List.set_cons_zero, List.set_cons_succ]
              refine sqs_take (i := 1) (v := (.pointer (some ⟨x, 0, none⟩))) (d := 90) rfl (by kernel_rfl) (by kernel_rfl) (by kernel_rfl) (by kernel_rfl) (by kernel_rfl) (fun _ _ _ h => h) ?_ (by assumption) ?_
              · intro w9 h9; kernel_rfl
              try simp only [Act.put, List.setIfInBounds_toArray, List.set_cons_zero, List.set_cons_succ]
              refine sqs_take (i := 2) (v := (.pointer (some ⟨x, 3, none⟩))) (d := 91) rfl (by kernel_rfl) (by kernel_rfl) (by kernel_rfl) (by kernel_rfl) (by kernel_rfl) (fun _ _ _ h => h) ?_ (by assumption) ?_
              · intro w9 h9; kernel_rfl
              try simp only [Act.put, List.setIfInBounds_toArray, List.set_cons_zero, List.set_cons_succ]
              refine sqs_take (i := 3) (v := (.agg (u8s (lastR T)).toArray)) (d := 92) rfl (by kernel_rfl) (by kernel_rfl) (by kernel_rfl) (by kernel_rfl) (by kernel_rfl) (fun _ _ _ h => h) ?_ (by assumption) ?_
              · intro w9 h9; exact exec_load_agg rfl x 3 (by kernel_rfl) (u8s (lastR T)) _ (LogB.c3 h9) Try.underlying41 rfl HDL.out.2.1
              try simp only [Act.put, List.setIfInBounds_toArray, List.set_cons_zero, List.set_cons_succ]
              refine sqs_take (i := 4) (v := (.pointer (some ⟨x, 0, none⟩))) (d := 93) rfl (by kernel_rfl) (by kernel_rfl) (by kernel_rfl) (by kernel_rfl) (by kernel_rfl) (fun _ _ _ h => h) ?_ (by assumption) ?_
              · intro w9 h9; kernel_rfl
              try simp only [Act.put, List.setIfInBounds_toArray, List.set_cons_zero, List.set_cons_succ]
              refine sqs_take (i := 5) (v := (.pointer (some ⟨x, 0, none⟩))) (d := 94) rfl (by kernel_rfl) (by kernel_rfl) (by kernel_rfl) (by kernel_rfl) (by kernel_rfl) (fun _ _ _ h => h) ?_ (by assumption) ?_
              · intro w9 h9; kernel_rfl
              try simp only [Act.put, List.setIfInBounds_toArray, List.set_cons_zero, List.set_cons_succ]
              refine sqs_take (i := 6) (v := (.pointer (some ⟨x, 1, none⟩))) (d := 95) rfl (by kernel_rfl) (by kernel_rfl) (by kernel_rfl) (by kernel_rfl) (by kernel_rfl) (fun _ _ _ h => h) ?_ (by assumption) ?_
              · intro w9 h9; kernel_rfl
              try simp only [Act.put, List.setIfInBounds_toArray, List.set_cons_zero, List.set_cons_succ]
              refine sqs_take (i := 7) (v := (.slice V1 T.length V3)) (d := 96) rfl (by kernel_rfl) (by kernel_rfl) (by kernel_rfl) (by kernel_rfl) (by kernel_rfl) (fun _ _ _ h => h) ?_ (by assumption) ?_
              · intro w9 h9; exact exec_load_one rfl (by kernel_rfl) (.slice V1 T.length V3) (.slice 26) w9 (LogB.c1 h9) Try.underlying25 rfl
              try simp only [Act.put, List.setIfInBounds_toArray, List.set_cons_zero, List.set_cons_succ]
              refine sqs_take (i := 8) (v := (.int .i64 (T.length : Int))) (d := 97) rfl (by kernel_rfl) (by kernel_rfl) (by kernel_rfl) (by kernel_rfl) (by kernel_rfl) (fun _ _ _ h => h) ?_ (by assumption) ?_
              · intro w9 h9; kernel_rfl
              try simp only [Act.put, List.setIfInBounds_toArray, List.set_cons_zero, List.set_cons_succ]
              refine sqs_take (i := 9) (v := (.slice Aj m cj)) (d := 98) rfl (by kernel_rfl) (by kernel_rfl) (by kernel_rfl) (by kernel_rfl) (by kernel_rfl) (fun _ _ _ h => h) ?_ (by assumption) ?_
              · intro w9 h9; kernel_rfl
              try simp only [Act.put, List.setIfInBounds_toArray, List.set_cons_zero, List.set_cons_succ]
              refine sqs_two (i := 10) (j := 11) rfl (by kernel_rfl) rfl (by kernel_rfl) (by kernel_rfl) ?_ ?_
              · have hr10 := fun (a₀ : Act) (o₀ : Oper) (K₀ : Act → World → Prop) (Q₀ : Exit → Act → World → Prop) => @sq_call Try.prog Q₀ a₀ o₀ wr.drew K₀ (Agg (.agg (u8s sum).toArray) wr.drew) 36 #[.agg (u8s (lastR T)).toArray, .int .i64 (T.length : Int), .slice Aj m cj] 99
                refine hr10 _ _ _ _ ?_ ?_ ?_ ?_
                · kernel_rfl
                · kernel_rfl
                · exact (HSM.out wr.drew ((Fr.refl [] wr).trans (Fr.refl [] wr).drew))
                rintro e w3 ⟨rfl, f3⟩
                have hS3 : LogB w3 x p (.slice V1 T.length V3) (k : Int) (lastR T) false := LogB.fr hS0 f3 (by simp)
                have F3 := (((Fr.refl [] wr).trans (Fr.refl [] wr).drew)).trans f3
                refine ⟨_, rfl, hS3, ?_⟩
                clear hr10
                try simp only [Act.put, List.setIfInBounds_toArray, List.set_cons_zero, List.set_cons_succ]
                refine sqs_only (i := 11) rfl (by kernel_rfl) (by kernel_rfl) ?_
                have hr11 := fun (a₀ : Act) (o₀ : Oper) (K₀ : Act → World → Prop) (Q₀ : Exit → Act → World → Prop) => @sq_val Try.prog Q₀ a₀ o₀ w3 K₀ (.pointer (some ⟨w3.heap.size, 0, none⟩)) (w3.alloc (.cells (zs 32).toArray 41)) 13
                refine hr11 _ _ _ _ ?_ ?_ ?_
                · kernel_rfl
                · exact ex_alloc_agg rfl arr32_zero
                clear hr11
                refine ⟨(LogB.fr hS3 ((Fr.refl [] w3).alloc _) (by simp)), ?_⟩
                try simp only [Act.put, List.setIfInBounds_toArray, List.set_cons_zero, List.set_cons_succ]
                obtain ⟨y, hy⟩ : ∃ y, w3.heap.size = y := ⟨_, rfl⟩
                obtain ⟨wa, hwa⟩ : ∃ W, w3.alloc (.cells (zs 32).toArray 41) = W := ⟨_, rfl⟩
                rw [hwa, hy]
                have f2 : Fr [] w3 wa := hwa ▸ (Fr.refl [] w3).alloc _
                have HB2 : Blk wa y 41 (zs 32).toArray := hwa ▸ hy ▸ Blk.new w3 _ _
                have hS2 : LogB wa x p (.slice V1 T.length V3) (k : Int) (lastR T) false := LogB.fr hS3 f2 (by simp)
                have F2x := (F3).trans f2
                have hyw : wr.heap.size ≤ y := hy ▸ (F3).size
                refine sqs_only (i := 12) rfl (by kernel_rfl) (by kernel_rfl) ?_
                have hr12 := fun (a₀ : Act) (o₀ : Oper) (K₀ : Act → World → Prop) (Q₀ : Exit → Act → World → Prop) => @sq_store Try.prog Q₀ a₀ o₀ wa K₀ 41 (.tmp 13) (.tmp 99) y 0 (u8s sum) (zs 32) 41
                refine hr12 _ _ _ _ ?_ ?_ ?_ ?_ ?_ ?_ ?_ ?_ ?_
                · kernel_rfl
                · kernel_rfl
                · kernel_rfl
                · kernel_rfl
                · exact HB2
                · exact HDS.out.1
                · exact (u8s_one _)
                · exact HDS.out.2.1
                clear hr12
                rw [HDS.out.2.2]
                refine ⟨(LogB.fr hS2 ((Fr.refl [y] wa).setRow (.inl (by simp)) _) (by have := HXL.out; simp; omega)), ?_⟩
                try simp only [Act.put, List.setIfInBounds_toArray, List.set_cons_zero, List.set_cons_succ]
                refine wpAnyH_done (by kernel_rfl) ?_ _
                go_wp2_with fail
                go_meet
                exact ⟨y, rfl, Blk.setRow_ HB2 _, Fr.setRow F2x (.inr hyw) _, hyw⟩
              · have hr11 := fun (a₀ : Act) (o₀ : Oper) (K₀ : Act → World → Prop) (Q₀ : Exit → Act → World → Prop) => @sq_val Try.prog Q₀ a₀ o₀ wr.drew K₀ (.pointer (some ⟨wr.drew.heap.size, 0, none⟩)) (wr.drew.alloc (.cells (zs 32).toArray 41)) 13
                refine hr11 _ _ _ _ ?_ ?_ ?_
                · kernel_rfl
                · exact ex_alloc_agg rfl arr32_zero
                clear hr11
                refine ⟨(LogB.fr hS0 ((Fr.refl [] wr.drew).alloc _) (by simp)), ?_⟩
                try simp only [Act.put, List.setIfInBounds_toArray, List.set_cons_zero, List.set_cons_succ]
                obtain ⟨y, hy⟩ : ∃ y, wr.drew.heap.size = y := ⟨_, rfl⟩
                obtain ⟨wa, hwa⟩ : ∃ W, wr.drew.alloc (.cells (zs 32).toArray 41) = W := ⟨_, rfl⟩
                rw [hwa, hy]
                have f2 : Fr [] wr.drew wa := hwa ▸ (Fr.refl [] wr.drew).alloc _
                have HB2 : Blk wa y 41 (zs 32).toArray := hwa ▸ hy ▸ Blk.new wr.drew _ _
                have hS2 : LogB wa x p (.slice V1 T.length V3) (k : Int) (lastR T) false := LogB.fr hS0 f2 (by simp)
                have F2x := (((Fr.refl [] wr).trans (Fr.refl [] wr).drew)).trans f2
                have hyw : wr.heap.size ≤ y := hy ▸ (((Fr.refl [] wr).trans (Fr.refl [] wr).drew)).size
                refine sqs_only (i := 10) rfl (by kernel_rfl) (by kernel_rfl) ?_
                have hr10 := fun (a₀ : Act) (o₀ : Oper) (K₀ : Act → World → Prop) (Q₀ : Exit → Act → World → Prop) => @sq_call Try.prog Q₀ a₀ o₀ wa K₀ (Agg (.agg (u8s sum).toArray) wa) 36 #[.agg (u8s (lastR T)).toArray, .int .i64 (T.length : Int), .slice Aj m cj] 99
                refine hr10 _ _ _ _ ?_ ?_ ?_ ?_
                · kernel_rfl
                · kernel_rfl
                · exact (HSM.out wa F2x)
                rintro e w3 ⟨rfl, f3⟩
                have hS3 : LogB w3 x p (.slice V1 T.length V3) (k : Int) (lastR T) false := LogB.fr hS2 f3 (by simp)
                have F3 := (F2x).trans f3
                have HB3 := Blk.fr HB2 f3 (by simp)
                refine ⟨_, rfl, hS3, ?_⟩
                clear hr10
                try simp only [Act.put, List.setIfInBounds_toArray, List.set_cons_zero, List.set_cons_succ]
                refine sqs_only (i := 12) rfl (by kernel_rfl) (by kernel_rfl) ?_
                have hr12 := fun (a₀ : Act) (o₀ : Oper) (K₀ : Act → World → Prop) (Q₀ : Exit → Act → World → Prop) => @sq_store Try.prog Q₀ a₀ o₀ w3 K₀ 41 (.tmp 13) (.tmp 99) y 0 (u8s sum) (zs 32) 41
                refine hr12 _ _ _ _ ?_ ?_ ?_ ?_ ?_ ?_ ?_ ?_ ?_
                · kernel_rfl
                · kernel_rfl
                · kernel_rfl
                · kernel_rfl
                · exact HB3
                · exact HDS.out.1
                · exact (u8s_one _)
                · exact HDS.out.2.1
                clear hr12
                rw [HDS.out.2.2]
                refine ⟨(LogB.fr hS3 ((Fr.refl [y] w3).setRow (.inl (by simp)) _) (by have := HXL.out; simp; omega)), ?_⟩
                try simp only [Act.put, List.setIfInBounds_toArray, List.set_cons_zero, List.set_cons_succ]
                refine wpAnyH_done (by kernel_rfl) ?_ _
                go_wp2_with fail
                go_meet
                exact ⟨y, rfl, Blk.setRow_ HB3 _, Fr.setRow F3 (.inr hyw) _, hyw⟩
            case rest =>
              obtain ⟨y, rfl, hby, hfc, hyw⟩ := hcut
              have HBY := Lib.hid hby; have FC := Lib.hid hfc; have HYW := Lib.hid hyw
              have HC := Lib.hid (HJ.out.fr hfc)
              have HCS := Lib.hid (rd_row hby)
              have HSR := Lib.hid ((own_rn HO3.out).fr (HFJ.out.trans hfc) (by simp))
              obtain ⟨eqb, heqb⟩ : ∃ eqb, (firstB T.length b sum == q0 :: q1 :: q2 :: q3 :: rest) = eqb := ⟨_, rfl⟩
              have HEQ := Lib.hid heqb
              clear hby hfc hyw heqb
              go_wp2_with fail
              have hS0 : LogB wc.drew x p (.slice V1 T.length V3) (k : Int) (lastR T) false ∧ ∀ j u, (u8s sum)[j]? = some u → wc.drew.cell? ⟨y, 0 + j, none⟩ = some u := ⟨HC.out.head, HCS.out⟩
              refine sqs_begin (fun w9 => LogB w9 x p (.slice V1 T.length V3) (k : Int) (lastR T) false ∧ ∀ j u, (u8s sum)[j]? = some u → w9.cell? ⟨y, 0 + j, none⟩ = some u) (by kernel_rfl) ?_
              refine sqs_take (i := 0) (v := (.pointer (some ⟨x, 0, none⟩))) (d := 100) rfl (by kernel_rfl) (by kernel_rfl) (by kernel_rfl) (by kernel_rfl) (by kernel_rfl) (fun _ _ _ h => h) ?_ (by assumption) ?_
              · intro w9 h9; kernel_rfl
              try simp only [Act.put, List.setIfInBounds_toArray, List.set_cons_zero, List.set_cons_succ]
              refine sqs_take (i := 1) (v := (.pointer (some ⟨x, 0, none⟩))) (d := 101) rfl (by kernel_rfl) (by kernel_rfl) (by kernel_rfl) (by kernel_rfl) (by kernel_rfl) (fun _ _ _ h => h) ?_ (by assumption) ?_
              · intro w9 h9; kernel_rfl
              try simp only [Act.put, List.setIfInBounds_toArray, List.set_cons_zero, List.set_cons_succ]
              refine sqs_take (i := 2) (v := (.pointer (some ⟨x, 1, none⟩))) (d := 102) rfl (by kernel_rfl) (by kernel_rfl) (by kernel_rfl) (by kernel_rfl) (by kernel_rfl) (fun _ _ _ h => h) ?_ (by assumption) ?_
              · intro w9 h9; kernel_rfl
              try simp only [Act.put, List.setIfInBounds_toArray, List.set_cons_zero, List.set_cons_succ]
              refine sqs_take (i := 3) (v := (.slice V1 T.length V3)) (d := 103) rfl (by kernel_rfl) (by kernel_rfl) (by kernel_rfl) (by kernel_rfl) (by kernel_rfl) (fun _ _ _ h => h) ?_ (by assumption) ?_
              · intro w9 h9; exact exec_load_one rfl (by kernel_rfl) (.slice V1 T.length V3) (.slice 26) w9 (LogB.c1 h9.1) Try.underlying25 rfl
              try simp only [Act.put, List.setIfInBounds_toArray, List.set_cons_zero, List.set_cons_succ]
              refine sqs_take (i := 4) (v := (.int .i64 (T.length : Int))) (d := 104) rfl (by kernel_rfl) (by kernel_rfl) (by kernel_rfl) (by kernel_rfl) (by kernel_rfl) (fun _ _ _ h => h) ?_ (by assumption) ?_
              · intro w9 h9; kernel_rfl
              try simp only [Act.put, List.setIfInBounds_toArray, List.set_cons_zero, List.set_cons_succ]
              refine sqs_take (i := 5) (v := (.slice Aj m cj)) (d := 105) rfl (by kernel_rfl) (by kernel_rfl) (by kernel_rfl) (by kernel_rfl) (by kernel_rfl) (fun _ _ _ h => h) ?_ (by assumption) ?_
              · intro w9 h9; kernel_rfl
              try simp only [Act.put, List.setIfInBounds_toArray, List.set_cons_zero, List.set_cons_succ]
              refine sqs_take (i := 6) (v := (.agg (u8s sum).toArray)) (d := 106) rfl (by kernel_rfl) (by kernel_rfl) (by kernel_rfl) (by kernel_rfl) (by kernel_rfl) (fun _ _ _ h => h) ?_ (by assumption) ?_
              · intro w9 h9; exact exec_load_agg rfl y 0 (by kernel_rfl) (u8s sum) _ h9.2 Try.underlying41 rfl HDS.out.2.1
              try simp only [Act.put, List.setIfInBounds_toArray, List.set_cons_zero, List.set_cons_succ]
              refine sqs_take (i := 8) (v := (.slice (some ⟨g1, 0, none⟩) 64 c1)) (d := 108) rfl (by kernel_rfl) (by kernel_rfl) (by kernel_rfl) (by kernel_rfl) (by kernel_rfl) (fun _ _ _ h => h) ?_ (by assumption) ?_
              · intro w9 h9; kernel_rfl
              try simp only [Act.put, List.setIfInBounds_toArray, List.set_cons_zero, List.set_cons_succ]
              refine sqs_only (i := 7) rfl (by kernel_rfl) (by kernel_rfl) ?_
              have hr7 := fun (a₀ : Act) (o₀ : Oper) (K₀ : Act → World → Prop) (Q₀ : Exit → Act → World → Prop) => @sq_call Try.prog Q₀ a₀ o₀ wc.drew K₀ (OwnRN wc.drew 64 (firstB T.length b sum)) 50 #[.int .i64 (T.length : Int), .slice Aj m cj, .agg (u8s sum).toArray] 107
              refine hr7 _ _ _ _ ?_ ?_ ?_ ?_
              · kernel_rfl
              · kernel_rfl
              · exact (HFC.out wc.drew (FC.out.trans (Fr.refl [] wc).drew))
              rintro e w5' ⟨A5, c5, rfl, ho5, f5⟩
              have hS5 : LogB w5' x p (.slice V1 T.length V3) (k : Int) (lastR T) false ∧ ∀ j u, (u8s sum)[j]? = some u → w5'.cell? ⟨y, 0 + j, none⟩ = some u := ⟨LogB.fr hS0.1 f5 (by simp), rd_row ((Blk.drew HBY.out).fr f5 (by simp))⟩
              refine ⟨_, rfl, hS5, ?_⟩
              clear hr7
              try simp only [Act.put, List.setIfInBounds_toArray, List.set_cons_zero, List.set_cons_succ]
              refine sqs_only (i := 9) rfl (by kernel_rfl) (by kernel_rfl) ?_
              have hr9 := fun (a₀ : Act) (o₀ : Oper) (K₀ : Act → World → Prop) (Q₀ : Exit → Act → World → Prop) => @sq_call Try.prog Q₀ a₀ o₀ w5' K₀ (Agg (.bool eqb) w5') 49 #[.slice A5 64 c5, .slice (some ⟨g1, 0, none⟩) 64 c1] 109
              refine hr9 _ _ _ _ ?_ ?_ ?_ ?_
              · kernel_rfl
              · kernel_rfl
              · exact (HEQ.out ▸ equal_calls w5' A5 64 c5 _ (firstB_length _ _ _ HSS.out.2) (own_rn ho5) _ 64 c1 _ HLEN.out ((HSR.out.fr (Fr.refl [] wc).drew (by simp)).fr f5 (by simp)) (by omega) (by omega))
              rintro e w9' ⟨rfl, f9⟩
              have hS9 : LogB w9' x p (.slice V1 T.length V3) (k : Int) (lastR T) false ∧ ∀ j u, (u8s sum)[j]? = some u → w9'.cell? ⟨y, 0 + j, none⟩ = some u := ⟨LogB.fr hS5.1 f9 (by simp), rd_row (((Blk.drew HBY.out).fr f5 (by simp)).fr f9 (by simp))⟩
              refine ⟨_, rfl, hS9, ?_⟩
              clear hr9
              try simp only [Act.put, List.setIfInBounds_toArray, List.set_cons_zero, List.set_cons_succ]
              refine sqs_take (i := 10) (v := (.bool (!eqb))) (d := 110) rfl (by kernel_rfl) (by kernel_rfl) (by kernel_rfl) (by kernel_rfl) (by kernel_rfl) (fun _ _ _ h => h) ?_ (by assumption) ?_
              · intro w9 h9; kernel_rfl
              try simp only [Act.put, List.setIfInBounds_toArray, List.set_cons_zero, List.set_cons_succ]
              refine wpAnyH_done (by kernel_rfl) ?_ _
              have F9 := Lib.hid (((Fr.refl [] wc).drew.trans f5).trans f9)
              clear hS9 hS5 hS0 f5 f9 ho5
              have H9 := Lib.hid (HC.out.fr F9.out)
              have FW := Lib.hid (((F3.out.trans HFJ.out).trans FC.out).trans F9.out)
              have HCS9 := Lib.hid (rd_row (HBY.out.fr F9.out (by simp)))
              have hox := own_ge HOJ.out
              have HTK := Lib.hid (take_calls08 _ x p _ k (lastR T) sum false D base T H9.out.hD H.out.hx H9.out.head H9.out.rows (lastR_length T) HSS.out.2 Aj m cj b HBL.out ((HBR.out.fr FC.out (by simp)).fr F9.out (by simp)) (fun _ q off hq hm => by
                have h1 := hox q off hq
                have h2 := F3.out.size
                have h3 := H.out.hD x H.out.hx
                simp at hm
                omega) hmx' (by omega) (by have := HTL.out; omega) H9.out.hb)
              clear hox
              cases eqb with
              | true =>
                have HE := Lib.hid (beq_iff_eq.1 HEQ.out)
                go_wp2_with (first
                  | (refine wpList_wanted (v := .agg (u8s sum).toArray) (by kernel_rfl) (exec_load_agg (ty := 41) (x := .tmp 13) rfl y 0 rfl (u8s sum) _ HCS9.out Try.underlying41 rfl HDS.out.2.1) ?_)
                  | (go_at_call 39; (refine HTK.out.mono ?_); rintro e wt ⟨u, v', rfl, hl6, ht6, f6, hk6⟩; have HL6 := Lib.hid hl6; have HT6 := Lib.hid ht6; have F6t := Lib.hid f6; have HK6 := Lib.hid hk6; clear hl6 ht6 f6 hk6))
                go_ret2
                have hR := HR2.out
                rw [if_neg (by simp [HE.out])] at hR
                rw [hR]
                obtain ⟨hxg, hxp, hlx, hlp, hlg⟩ := H.out.xg
                have hF : Fr (x :: (Value.slice V1 T.length V3).ownBlock.toList) w wt := (FW.out.mono (T := x :: (Value.slice V1 T.length V3).ownBlock.toList) (by simp)).trans' F6t.out (fun q hq => .inl hq)
                refine ⟨v', rfl, ⟨?_, H9.out.disk.fr F6t.out ?_ ?_, HT6.out, HROOM'.out, ?_, ?_, H.out.hx, H.out.hp, H.out.hg, fun q hq => Nat.lt_of_lt_of_le (H.out.hD q hq) hF.size, Nat.le_trans H.out.hb hF.size⟩, hF, fun q hq => ?_⟩
                · show LogB wt x p v' ((k + j : Nat) : Int) (lastR (T ++ [b])) false
                  rw [lastR_snoc, HSS.out.1, ← HN.out]
                  exact HL6.out
                · intro hm
                  rcases List.mem_cons.1 hm with h | h
                  · exact hxp h.symm
                  · exact hlp (by simpa using h)
                · intro hm
                  rcases List.mem_cons.1 hm with h | h
                  · exact hxg h.symm
                  · exact hlg (by simpa using h)
                · have := H.out.hT
                  simp only [List.length_append, List.length_singleton]
                  omega
                · intro t ht
                  rcases List.mem_append.1 ht with ht | ht
                  · exact H.out.hs t ht
                  · simp at ht
                    subst ht
                    rw [HBL.out]
                    exact hmx'
                · rcases HK6.out q hq with h | h
                  · exact .inl h
                  · exact .inr (Nat.le_trans FW.out.size h)
              | false =>
                have HE := Lib.hid (beq_eq_false_iff_ne.1 HEQ.out)
                go_wp2_with fail
                go_ret2
                have hR := HR2.out
                rw [if_pos HE.out] at hR
                rw [hR]
                exact NextP.same H.out FW.out rfl
  · have hb63 : ((q63.toNat : Int) != 1) = true := by
      rw [bne_iff_ne]
      intro e
      exact h63 (UInt8.toNat_inj.1 (show q63.toNat = 1 by omega))
    have hRR : R = (false, 0, T, k) := by rw [HR1.out, if_pos (by simpa using h63)]
    go_wp2_with go_big_skip
    go_ret2
    try rw [hRR]
    exact NextP.same H.out F3.out rfl
theorem next_calls (w : World) (x p g n cap : Nat) (s : Dk.DS) (lv : Value) (T : List (List UInt8)) (k : Nat) (D : List Nat) (base : Nat) (h : IsLog w x p g n cap s lv T k false D base) (hd : s.dead = false) :
    Calls Try.prog 34 #[.pointer (some ⟨x, 0, none⟩)] w (NextP w x p g n cap s lv D base (nextR n s.bs T k)) := by
  rcases Nat.lt_or_ge k n with hk | hk
  · exact next_more w x p g n cap s lv T k D base h hd hk
  · obtain rfl : k = n := Nat.le_antisymm h.hk hk
    exact next_end w x p g k cap s lv T D base h
end Go.Proofs.Ytmmjihkcofgmmaa

/- The log: opened. -/
namespace Go.Proofs.Ytmmjihkcofgmmaa
open Go.RowKit
set_option linter.unusedVariables false

/-- the records from here on; none: there is no log -/
def openF (n : Nat) (bs : List UInt8) : Nat → List (List UInt8) × Nat → Option (List (List UInt8) × Nat)
  | 0, _ => none
  | f + 1, (T, k) => if (nextR n bs T k).1 then openF n bs f (nextR n bs T k).2.2 else if (nextR n bs T k).2.1 = 0 then some (T, k) else none
def openR (n : Nat) (bs : List UInt8) : Option (List (List UInt8) × Nat) := openF n bs (n + 1) ([], 0)
theorem nextR_cases (n : Nat) (bs : List UInt8) (T : List (List UInt8)) (k : Nat) :
    (∃ T' k', nextR n bs T k = (true, 0, T', k') ∧ k < k') ∨ nextR n bs T k = (false, 0, T, k) ∨ nextR n bs T k = (false, 31, T, k) := by
  unfold nextR
  split
  · exact .inr (.inl rfl)
  · split
    · exact .inr (.inl rfl)
    · split
      · exact .inr (.inr rfl)
      · rename_i h
        split
        · exact .inr (.inr rfl)
        · split
          · exact .inr (.inr rfl)
          · exact .inl ⟨_, _, rfl, by have := needN_pos (cntAt bs k) (by omega); omega⟩
theorem TxRow.grow {w : World} {v : Value} {D : List Nat} {base y : Nat} {T : List (List UInt8)} (h : TxRow w v D base T) (hy : w.heap.size ≤ y) : TxRow w v (y :: D) base T := by
  obtain ⟨vs, h1, h2, h3⟩ := h
  refine ⟨vs, h1, h2, fun i t ht => ?_⟩
  obtain ⟨A, c, e1, e2, e3, e4⟩ := h3 i t ht
  refine ⟨A, c, e1, e2, fun hl b off hb => ⟨fun hm => ?_, (e3 hl b off hb).2⟩, e4⟩
  rcases List.mem_cons.1 hm with rfl | hm
  · subst hb
    have := e2.lt hl
    omega
  · exact (e3 hl b off hb).1 hm
theorem IsLog.grow {w w' : World} {x p g n cap : Nat} {s : Dk.DS} {lv : Value} {T : List (List UInt8)} {k : Nat} {br : Bool} {D : List Nat} {base y : Nat} (h : IsLog w x p g n cap s lv T k br D base) (hf : Fr [] w w') (h1 : w.heap.size ≤ y) (h2 : y < w'.heap.size) : IsLog w' x p g n cap s lv T k br (y :: D) base :=
  { h.fr hf with
    rows := (h.rows.grow h1).frD hf
    hx := List.mem_cons_of_mem _ h.hx
    hp := List.mem_cons_of_mem _ h.hp
    hg := List.mem_cons_of_mem _ h.hg
    hD := fun q hq => by
      rcases List.mem_cons.1 hq with rfl | hq
      · exact h2
      · exact (h.fr hf).hD q hq }
theorem IsLog.less {w : World} {x p g n cap : Nat} {s : Dk.DS} {lv : Value} {T : List (List UInt8)} {k : Nat} {br : Bool} {D D' : List Nat} {base : Nat} (h : IsLog w x p g n cap s lv T k br D' base) (hs : ∀ q ∈ D, q ∈ D') (hx : x ∈ D) (hp : p ∈ D) (hg : g ∈ D) : IsLog w x p g n cap s lv T k br D base :=
  { h with
    rows := h.rows.less (Nat.le_refl _) hs
    hx := hx
    hp := hp
    hg := hg
    hD := fun q hq => h.hD q (hs q hq) }
/-- what opening tells -/
def OpenP (w : World) (p g n cap : Nat) (s : Dk.DS) (D : List Nat) (r : Option (List (List UInt8) × Nat)) (e : Ending) (w' : World) : Prop :=
  Fr [] w w' ∧ ((r = none ∧ e = .returned (.tuple #[.pointer none, .int .i64 31])) ∨
    ∃ T k x lv, r = some (T, k) ∧ e = .returned (.tuple #[.pointer (some ⟨x, 0, none⟩), .int .i64 0]) ∧ w.heap.size ≤ x ∧ IsLog w' x p g n cap s lv T k false (x :: p :: g :: D) w.heap.size)
set_option maxRecDepth 100000 in
theorem open_nil (w : World) : Calls Try.prog 14 #[.pointer none] w (Same (.tuple #[.pointer none, .int .i64 1]) w) := by
  go_enter Try.func14, Try.ntmps14
  go_wp2
  go_ret2
  exact ⟨rfl, rfl⟩
set_option maxRecDepth 100000 in
set_option maxHeartbeats 2000000 in
theorem open_calls (w : World) (p g n cap : Nat) (s : Dk.DS) (h : Dk.IsDisk w p g n cap s) (hd : s.dead = false) (D : List Nat) (hD : ∀ y ∈ D, y < w.heap.size) : Calls Try.prog 14 #[.pointer (some ⟨p, 0, none⟩)] w (OpenP w p g n cap s D (openR n s.bs)) := by
  have hdc := Dk.dead_calls w p g n cap s h
  rw [hd] at hdc
  have HDC := Lib.hid hdc
  obtain ⟨w1, hw1⟩ : ∃ W, w.alloc (.cells (logC p (.slice none 0 0) 0 (List.replicate 32 0) false).toArray 65) = W := ⟨_, rfl⟩
  have f1 : Fr [] w w1 := hw1 ▸ (Fr.refl [] w).alloc _
  have hb1 : LogB w1 w.heap.size p (.slice none 0 0) ((0 : Nat) : Int) (lastR []) false := hw1 ▸ Blk.new w _ _
  have HL1 : Hid (IsLog w1 w.heap.size p g n cap s (.slice none 0 0) [] 0 false (w.heap.size :: p :: g :: D) w.heap.size) := Lib.hid
    { head := hb1, disk := h.fr f1 (by simp) (by simp), rows := TxRow.nil _ _ _, hk := Nat.zero_le _, hT := Nat.le_refl _, hs := by simp, hx := by simp, hp := by simp, hg := by simp, hb := f1.size
      hD := fun y hy => by
        have h1 := hb1.lt
        have h2 := h.lt
        have h3 := f1.size
        rcases List.mem_cons.1 hy with rfl | hy
        · omega
        · rcases List.mem_cons.1 hy with rfl | hy
          · omega
          · rcases List.mem_cons.1 hy with rfl | hy
            · omega
            · have := hD y hy
              omega }
  have F1 := Lib.hid f1; have HDE := Lib.hid hd
  obtain ⟨R, hR⟩ : ∃ R, openR n s.bs = R := ⟨_, rfl⟩
  have HR := Lib.hid hR
  rw [hR]
  clear h hd hdc f1 hb1 hR hD
  go_enter Try.func14, Try.ntmps14
  go_wp2_with (first
    | (go_at_call 28; (refine HDC.out.mono ?_); rintro e w' ⟨rfl, rfl⟩)
    | (refine box_agg rfl 65 (.tmp 12) rfl (logC p (.slice none 0 0) 0 (List.replicate 32 0) false).toArray rfl ?_; rw [hw1]))
  go_loopg [5] n (fun gg u wr => ∃ (T : List (List UInt8)) (k : Nat) (lv : Value) (f : Nat), gg = n - k ∧ IsLog wr w.heap.size p g n cap s lv T k false (w.heap.size :: p :: g :: D) w.heap.size ∧ Fr [] w wr ∧ n - k < f ∧ R = openF n s.bs f (T, k))
  case atStart => exact ⟨[], 0, _, n + 1, by omega, HL1.out, F1.out, by omega, HR.out.symm⟩
  case round =>
    obtain ⟨T, k, lv, f, rfl, hl, hf, hfu, hRf⟩ := hrel
    have HL := Lib.hid hl; have HF := Lib.hid hf
    have HNX := Lib.hid (next_calls wr w.heap.size p g n cap s lv T k _ _ hl HDE.out)
    obtain ⟨f', rfl⟩ : ∃ f', f = f' + 1 := ⟨f - 1, by omega⟩
    have hstep : openF n s.bs (f' + 1) (T, k) = if (nextR n s.bs T k).1 then openF n s.bs f' (nextR n s.bs T k).2.2 else if (nextR n s.bs T k).2.1 = 0 then some (T, k) else none := rfl
    rw [hstep] at hRf
    rcases nextR_cases n s.bs T k with ⟨T', k', hN, hk'⟩ | hN | hN
    · have HNX' := Lib.hid (hN ▸ HNX.out)
      have hR1 : R = openF n s.bs f' (T', k') := by rw [hRf, hN]; rfl
      have HR1 := Lib.hid hR1
      clear hl hf hRf hstep HNX hN hR1
      go_wp2_with (go_at_call 34; (refine HNX'.out.mono ?_); rintro e w2 ⟨lv', rfl, hl2, f2, hq2⟩; have HL2 := Lib.hid hl2; have F2 := Lib.hid f2; clear hl2 f2 hq2)
      have hk2 := HL2.out.hk
      go_roundg (n - k')
      case measure => omega
      case rel => exact ⟨T', k', lv', f', rfl, HL2.out, HF.out.trans' F2.out (fun q hq => .inr (by
        rcases List.mem_cons.1 hq with rfl | hq
        · exact Nat.le_refl _
        · exact (HL.out.rows.lt q (by simpa using hq)).1)), by omega, HR1.out⟩
    · have HNX' := Lib.hid (hN ▸ HNX.out)
      have hR1 : R = some (T, k) := by rw [hRf, hN]; rfl
      have HR1 := Lib.hid hR1
      clear hl hf hRf hstep HNX hN hR1
      go_wp2_with (go_at_call 34; (refine HNX'.out.mono ?_); rintro e w2 ⟨lv', rfl, hl2, f2, hq2⟩; have HL2 := Lib.hid hl2; have F2 := Lib.hid f2; clear hl2 f2 hq2)
      go_ret2
      exact ⟨HF.out.trans' F2.out (fun q hq => .inr (by
        rcases List.mem_cons.1 hq with rfl | hq
        · exact Nat.le_refl _
        · exact (HL.out.rows.lt q (by simpa using hq)).1)), .inr ⟨T, k, _, lv', HR1.out, rfl, Nat.le_refl _, HL2.out⟩⟩
    · have HNX' := Lib.hid (hN ▸ HNX.out)
      have hR1 : R = none := by rw [hRf, hN]; rfl
      have HR1 := Lib.hid hR1
      clear hl hf hRf hstep HNX hN hR1
      go_wp2_with (go_at_call 34; (refine HNX'.out.mono ?_); rintro e w2 ⟨lv', rfl, hl2, f2, hq2⟩; have HL2 := Lib.hid hl2; have F2 := Lib.hid f2; clear hl2 f2 hq2)
      go_ret2
      exact ⟨HF.out.trans' F2.out (fun q hq => .inr (by
        rcases List.mem_cons.1 hq with rfl | hq
        · exact Nat.le_refl _
        · exact (HL.out.rows.lt q (by simpa using hq)).1)), .inl ⟨HR1.out, rfl⟩⟩
end Go.Proofs.Ytmmjihkcofgmmaa
