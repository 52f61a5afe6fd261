/- SHA-256: a sum under way: New, Write. -/
import Derived.Test.YtmgbimdebhhckaaShaE
import Derived.Test.YtmgbimdebhhckaaSeq
namespace Go.Proofs.Ytmgbimdebhhckaa
open Go.RowKit

def H0 : V8 := ⟨1779033703, 3144134277, 1013904242, 2773480762, 1359893119, 2600822924, 528734635, 1541459225⟩
theorem H0_l : H0.l = Hw := rfl
/-- k blocks are turned in -/
def turnN (h : V8) (l : List UInt8) : Nat → V8
  | 0 => h
  | k + 1 => turnF (turnN h l k) ((l.drop (64 * k)).take 64)
theorem turnN_append (h : V8) (l m : List UInt8) : ∀ k, 64 * k ≤ l.length → turnN h (l ++ m) k = turnN h l k
  | 0, _ => rfl
  | k + 1, hk => by
    rw [turnN, turnN, turnN_append h l m k (by omega), List.drop_append_of_le_length (by omega), List.take_append_of_le_length (by simp; omega)]
theorem turnN_add (h : V8) (l : List UInt8) (a : Nat) : ∀ b, turnN h l (a + b) = turnN (turnN h l a) (l.drop (64 * a)) b
  | 0 => rfl
  | b + 1 => by
    rw [← Nat.add_assoc, turnN, turnN_add h l a b, turnN, List.drop_drop, show 64 * (a + b) = 64 * a + 64 * b by omega]
/-- behind all whole blocks -/
def turned (l : List UInt8) : V8 := turnN H0 l (l.length / 64)
def restB (l : List UInt8) : List UInt8 := l.drop (64 * (l.length / 64))
theorem restB_length (l : List UInt8) : (restB l).length = l.length % 64 := by simp [restB]; omega
theorem turned_append (l b : List UInt8) : turned (l ++ b) = turnN (turned l) (restB l ++ b) ((restB l ++ b).length / 64) := by
  unfold turned
  have e : (l ++ b).length / 64 = l.length / 64 + (restB l ++ b).length / 64 := by simp [restB_length]; omega
  rw [e, turnN_add, turnN_append H0 l b _ (by omega), List.drop_append_of_le_length (by omega)]
  rfl
theorem restB_append (l b : List UInt8) : restB (l ++ b) = (restB l ++ b).drop (64 * ((restB l ++ b).length / 64)) := by
  unfold restB
  have e : (l ++ b).length / 64 = l.length / 64 + (l.drop (64 * (l.length / 64)) ++ b).length / 64 := by simp; omega
  rw [e, Nat.mul_add, ← List.drop_drop, List.drop_append_of_le_length (by omega)]
def stCells (V : V8) (A : Option Addr) (m c n : Nat) : List Value := u32s V.l ++ [.slice A m c, .int .u64 (n : Int)]
theorem stCells_length (V : V8) (A : Option Addr) (m c n : Nat) : (stCells V A m c n).length = 10 := by simp [stCells, V8.l]
/-- At block p lies a sum under way, of the text l; what fills no block lies at A. -/
structure StIs (w : World) (p : Nat) (l : List UInt8) (A : Option Addr) : Prop where
  blk : ∃ (V : V8) (c : Nat), Blk w p 72 (stCells V A (l.length % 64) c l.length).toArray ∧ l.length % 64 ≤ c ∧ (l ≠ [] → V = turned l)
  rd : Rd w A (restB l)
  len : l.length ≤ 100000000

theorem not_u8 {w : World} {p off : Nat} {t : TypeId} {V : V8} {A : Option Addr} {m c n : Nat} {x : UInt8} (h : Blk w p t (stCells V A m c n).toArray) : w.cell? ⟨p, off, none⟩ ≠ some (u8v x) := by
  rw [h.cell, List.getElem?_toArray]
  intro hc
  have := List.mem_of_getElem? hc
  simp [stCells, u32s, u32v, u8v] at this
theorem StIs.ne {w : World} {p : Nat} {l m : List UInt8} {A B : Option Addr} (h : StIs w p l A) (hB : Rd w B m) (hm : 0 < m.length) {b off : Nat} (hb : B = some ⟨b, off, none⟩) : b ≠ p := by
  rintro rfl
  obtain ⟨V, c, hblk, _⟩ := h.blk
  obtain ⟨b', off', hB', hc⟩ := hB hm
  rw [hb] at hB'
  injection hB' with hB'
  injection hB' with h1 h2
  subst h1
  exact not_u8 hblk (hc 0 m[0] (by simp))
theorem StIs.fr {S : List Nat} {w w' : World} {p : Nat} {l : List UInt8} {A : Option Addr} (h : StIs w p l A) (hf : Fr S w w') (hp : p ∉ S) (hA : ∀ b off, A = some ⟨b, off, none⟩ → b ∉ S) : StIs w' p l A := by
  obtain ⟨⟨V, c, hb, hc, hV⟩, hr, hl⟩ := h
  exact ⟨⟨V, c, hb.fr hf hp, hc, hV⟩, hr.fr hf hA, hl⟩
theorem StIs.lt {w : World} {p : Nat} {l : List UInt8} {A : Option Addr} (h : StIs w p l A) : p < w.heap.size := by
  obtain ⟨⟨V, c, hb, _⟩, _, _⟩ := h
  exact hb.lt

theorem box_agg {P : Program} {ops : Array Oper} {rest : List Oper} {o : Oper} {a : Act} {w : World} {Q : Exit → Act → World → Prop} (hgd : o.guard = none) (ty : TypeId) (x : Operand) (ho : o.op = .box ty x)
    (cs : Array Value) (hx : a.eval x = .agg cs) (h : wpList P ops Q rest (a.put o.dst (.pointer (some ⟨w.heap.size, 0, none⟩))) (w.alloc (.cells cs ty))) : wpList P ops Q (o :: rest) a w := by
  refine wpList_val hgd _ _ ?_ h
  unfold execOp
  simp [ho, hx, Instr.box, newVar, newRow, newObj, Value.cells, Sem.run]

def NewS (w : World) (e : Ending) (w' : World) : Prop := ∃ p, e = .returned (.pointer (some ⟨p, 0, none⟩)) ∧ w.heap.size ≤ p ∧ StIs w' p [] none ∧ Fr [] w w'
theorem new_calls (w : World) : Calls Try.prog 35 #[] w (NewS w) := by
  have HB := Lib.hid (begin_calls w)
  go_enter Try.func35, Try.ntmps35
  go_wp2_with (go_at_call 46; (with_reducible refine HB.out.mono ?_); rintro e w1 ⟨rfl, f1⟩; have F1 := Lib.hid f1; clear f1)
  go_wp2_with (first
    | (refine wpList_val (o := ⟨some 2, _, _, _, _, _⟩) rfl (.agg (stCells H0 none 0 0 0).toArray) _ (by kernel_rfl) ?_)
    | (refine box_agg rfl 72 (.tmp 2) rfl (stCells H0 none 0 0 0).toArray rfl ?_))
  go_ret
  refine ⟨_, rfl, F1.out.size, ⟨⟨H0, 0, Blk.new _ _ _, by simp, by simp⟩, by simp [Rd, restB], by simp⟩, F1.out.alloc _⟩

theorem rdDrop {w : World} {A : Option Addr} {l : List UInt8} (h : Rd w A l) (n c : Nat) (hn : n ≤ l.length) (hc : l.length ≤ c) : Rd w (if c = n then A else A.map (·.add n)) (l.drop n) := by
  intro hl
  simp at hl
  obtain ⟨b, off, rfl, hcell⟩ := h (by omega)
  rw [if_neg (by omega)]
  refine ⟨b, off + n, by simp [addr_add0], fun j x hx => ?_⟩
  rw [List.getElem?_drop] at hx
  have := hcell (n + j) x hx
  rwa [Nat.add_assoc]
/-- an address in block g -/
def InB (g : Nat) (A : Option Addr) : Prop := ∀ ad, A = some ad → ad.block = g ∧ ad = ⟨ad.block, ad.off, none⟩
theorem InB.map {g : Nat} {A : Option Addr} (h : InB g A) (n c : Nat) : InB g (if c = n then A else A.map (·.add n)) := by
  intro ad hA
  split at hA
  · exact h ad hA
  · cases A with
    | none => simp at hA
    | some ad' =>
      have h1 := h ad' rfl
      rw [h1.2, Option.map_some, addr_add0] at hA
      simp at hA
      subst hA
      exact ⟨h1.1, rfl⟩
theorem set9 (V : V8) (A : Option Addr) (m c n k : Nat) : (stCells V A m c n).toArray.setIfInBounds 9 (.int .u64 (k : Int)) = (stCells V A m c k).toArray := by simp [stCells, V8.l, u32s]
theorem set8 (V : V8) (A A' : Option Addr) (m c n m' c' : Nat) : (stCells V A m c n).toArray.setIfInBounds 8 (.slice A' m' c') = (stCells V A' m' c' n).toArray := by simp [stCells, V8.l, u32s]
theorem set07 (V V' : V8) (A : Option Addr) (m c n : Nat) : splice (stCells V A m c n) 0 (u32s V'.l) = stCells V' A m c n := by simp [stCells, V8.l, u32s, splice]

def WriteS (w : World) (p : Nat) (l b : List UInt8) (e : Ending) (w' : World) : Prop :=
  e = .returned (.tuple #[]) ∧ ∃ A', StIs w' p (l ++ b) A' ∧ (∀ bb off, A' = some ⟨bb, off, none⟩ → w.heap.size ≤ bb) ∧ Fr [p] w w'
set_option maxHeartbeats 2000000 in
theorem write_calls (w : World) (p : Nat) (l : List UInt8) (A : Option Addr) (h : StIs w p l A) (B : Option Addr) (n cb : Nat) (b : List UInt8) (hn : b.length = n) (hB : Rd w B b) (hbd : l.length + n ≤ 100000000) :
    Calls Try.prog 36 #[.pointer (some ⟨p, 0, none⟩), .slice B n cb] w (WriteS w p l b) := by
  have H := Lib.hid h
  obtain ⟨⟨V, c, hblk, hc, hV⟩, hrd, hlen⟩ := h
  obtain ⟨N, hN⟩ : ∃ N, l.length = N := ⟨_, rfl⟩
  obtain ⟨m, hm⟩ : ∃ m, l.length % 64 = m := ⟨_, rfl⟩
  rw [hm] at hblk hc
  rw [hN] at hblk hbd
  have HB := Lib.hid hblk; have HV := Lib.hid hV; have HRD := Lib.hid hrd; have HM := Lib.hid hm; have HN := Lib.hid hN; have HRB := Lib.hid hB; have HNB := Lib.hid hn
  have HBEG := Lib.hid (begin_calls w)
  have c9 : w.cell? ⟨p, 9, none⟩ = some (.int .u64 (N : Int)) := by rw [hblk.cell]; simp [stCells, V8.l, u32s]
  have hz := hblk.frozen
  have hbN : (N : Int) ≤ 100000000 := by omega
  have hbn : (n : Int) ≤ 100000000 := by omega
  have HSZ := Lib.hid (show (Try.prog.info? 69).map (·.size) = some (u32s Hw).length from arr8_size)
  clear hblk hV hrd hm hN hB hn hlen
  by_cases hl : l = []
  · have hN0 : ((N : Int) == 0) = true := by rw [← HN.out, hl]; rfl
    have HL := Lib.hid hl
    clear hl
    go_enter Try.func36, Try.ntmps36
    go_upto_region 2 with (first
      | (go_at_call 46; (with_reducible refine HBEG.out.mono ?_); rintro e w1 ⟨rfl, f1⟩; have F1 := Lib.hid f1; have HB1 := Lib.hid (HB.out.fr f1 (by simp)); clear f1 c9 hz)
      | (refine wpList_store_agg rfl 69 (.tmp 13) (.tmp 11) rfl p 0 rfl (u32s Hw) rfl (stCells V A m c N) 72 HB1.out (by rw [stCells_length]; decide) (u32s_one _) HSZ.out ?_))
    have hb2 := HB1.out.setRow_ (splice (stCells V A m c N) 0 (u32s Hw)).toArray
    have hf2 := (F1.out.mono (T := [p]) (by simp)).setRow (g := p) (.inl (by simp)) (splice (stCells V A m c N) 0 (u32s Hw)).toArray
    rw [← H0_l, set07, show H0 = turned l by rw [HL.out]; rfl] at hb2
    rw [← H0_l, set07, show H0 = turned l by rw [HL.out]; rfl] at hf2 ⊢
    obtain ⟨W1, hW1⟩ : ∃ W1, w1.setRow p (stCells (turned l) A m c N).toArray = W1 := ⟨_, rfl⟩
    rw [hW1] at hb2 hf2 ⊢
    have HB2 := Lib.hid hb2; have HF2 := Lib.hid hf2
    have c9 : W1.cell? ⟨p, 9, none⟩ = some (.int .u64 (N : Int)) := by rw [hb2.cell]; simp [stCells, V8.l, u32s]
    have hz := hb2.frozen
    clear hW1 hb2 hf2 HBEG HB1 F1 hN0
    clear w1
    simp only [Act.put]
    have hbig : (N : Int) + (n : Int) ≤ 200000000 := by omega
    go_upto_region 3 with fail
    have hb3 := HB2.out.set_ 9 (.int .u64 ((N + n : Nat) : Int))
    rw [set9] at hb3
    have hf3 := HF2.out.setCell (p := ⟨p, 9, none⟩) (.inl (by simp)) (.int .u64 ((N + n : Nat) : Int))
    rw [Int.natCast_add] at hb3 hf3
    obtain ⟨W2, hW2⟩ : ∃ W2, (W1.setCell ⟨p, 9, none⟩ (.int .u64 ((N : Int) + (n : Int)))) = W2 := ⟨_, rfl⟩
    rw [hW2] at hb3 hf3 ⊢
    have hsz : w.heap.size ≤ W2.heap.size := hf3.size
    have hA2 : Rd W2 A (restB l) := HRD.out.fr0 hf3 (fun hl b off hb => by have := H.out.ne HRD.out hl hb; simpa using this)
    have hB2 : Rd W2 B b := HRB.out.fr0 hf3 (fun hl b off hb => by have := H.out.ne HRB.out hl hb; simpa using this)
    have hrl : (restB l).length = m := by rw [restB_length, HM.out]
    have hm64 : m < 64 := by rw [← HM.out]; omega
    have HB3 := Lib.hid hb3; have HF3 := Lib.hid hf3; have HA2 := Lib.hid hA2; have HBB := Lib.hid hB2; have HRL := Lib.hid hrl; have HSZ2 := Lib.hid hsz
    have hp2 : p < W2.heap.size := hb3.lt
    have c8 : (W2.alloc (.cells #[] 5)).cell? ⟨p, 8, none⟩ = some (.slice A m c) := cell_alloc (by rw [hb3.cell]; simp [stCells, V8.l, u32s]) _
    have hbm : m ≤ 1000000000 := by omega
    have hbmn : m + n ≤ 1000000000 := by omega
    have HP2 := Lib.hid hp2
    clear hb3 hf3 hA2 hB2 hrl hW2 HB2 HF2 c9 hz hsz hp2
    go_wp2_with (first
      | (at_builtin; refine copyU8 rfl (.tmp 24) (.tmp 28) rfl W2 _ rfl rfl rfl A m c (restB l) rfl HRL.out HA2.out hbm ?_; intro g1 c1 w3 ho1 hf1; have HO1 := Lib.hid ho1; have HF1 := Lib.hid hf1; have HB31 := Lib.hid (HBB.out.fr hf1 (by simp)); clear ho1 hf1)
      | (at_builtin; refine growU8 rfl (.tmp 29) (.tmp 30) rfl W2.heap.size _ m _ (restB l) rfl HO1.out B n cb b rfl HNB.out HB31.out hbmn HF1.out.size ?_; intro g2 c2 w4 ho2 hf2; have HO2 := Lib.hid ho2; have HF2 := Lib.hid (HF1.out.trans' hf2 (fun x hx => by simp at hx; subst hx; exact .inr (ownB_at HO1.out).2.1)); clear ho2 hf2))
    obtain ⟨hlen2, hg2, hc2, hcm2, tl, hblk2⟩ := ownB_at HO2.out
    have hrd2 := rdB_blk hblk2
    have hbp := HB3.out.fr HF2.out (by simp)
    have hfr := HF3.out.trans' HF2.out (by simp)
    obtain ⟨all, hall⟩ : ∃ all, restB l ++ b = all := ⟨_, rfl⟩
    rw [hall] at hlen2 hrd2
    have HALL := Lib.hid hall; have HLEN2 := Lib.hid hlen2; have HRD2 := Lib.hid hrd2; have HBP := Lib.hid hbp; have HFR := Lib.hid hfr
    have hg2p : w.heap.size ≤ g2 := Nat.le_trans HSZ2.out hg2
    have hpg : p ≠ g2 := by have := HP2.out; omega
    have HG2 := Lib.hid hg2p; have HPG := Lib.hid hpg
    obtain ⟨M, hMe⟩ : ∃ M, m + n = M := ⟨_, rfl⟩
    rw [hMe] at hc2 HLEN2
    have hMs : (m : Int) + (n : Int) = (M : Int) := by omega
    have HME := Lib.hid hMe
    rw [hMe]
    clear hall hlen2 hrd2 hbp hfr hblk2 hg2 hg2p hpg hcm2 HO2 HO1 HF1 HF2 HBB HB31 HB3 HF3 HA2 c8 hMs hMe
    go_loopg [4] M (fun gg v wr => ∃ (k : Nat) (A' : Option Addr) (c' : Nat), 64 * k ≤ M ∧ gg = M - 64 * k ∧ v = .slice A' (M - 64 * k) c' ∧ M - 64 * k ≤ c' ∧ InB g2 A' ∧ Rd wr A' (all.drop (64 * k)) ∧
      Blk wr p 72 (stCells (turnN (turned l) all k) A m c (N + n)).toArray ∧ Fr [p] w wr)
    case atStart => exact ⟨0, _, _, by omega, by omega, rfl, by omega, (by intro ad hA; cases hA; exact ⟨rfl, rfl⟩), by simpa using HRD2.out, HBP.out, HFR.out⟩
    case round =>
      obtain ⟨k, A', c', hk, rfl, rfl, hc', hin, hrd, hblk, hfr⟩ := hrel
      obtain ⟨r, hr⟩ : ∃ r, M - 64 * k = r := ⟨_, rfl⟩
      rw [hr] at hc' ⊢
      have HR := Lib.hid hr; have HIN := Lib.hid hin; have HRDr := Lib.hid hrd; have HBr := Lib.hid hblk; have HFr := Lib.hid hfr
      clear hrd hblk hfr hin
      by_cases hlt : 64 ≤ r
      · clear hr
        go_wp2_with fail
        have h64c : (64 : Int) ≤ (c' : Int) := by omega
        obtain ⟨VK, hVK⟩ : ∃ x, turnN (turned l) all k = x := ⟨_, rfl⟩
        rw [hVK] at HBr
        obtain ⟨VN, hVN⟩ : ∃ x, turnF VK ((all.drop (64 * k)).take 64) = x := ⟨_, rfl⟩
        have h64r : (64 : Int) ≤ (r : Int) := by omega
        have hdl : (all.drop (64 * k)).length = r := by rw [List.length_drop, HLEN2.out, HR.out]
        have ht64 : ((all.drop (64 * k)).take 64).length = 64 := by rw [List.length_take, hdl]; omega
        have HCELL := Lib.hid (show ∀ j v, (u32s VK.l)[j]? = some v → wr.drew.cell? ⟨p, 0 + j, none⟩ = some v from fun j v hv => by
          have hj : j < 8 := by have := (List.getElem?_eq_some_iff.1 hv).1; simpa [V8.l] using this
          rw [HBr.out.drew.cell, List.getElem?_toArray, Nat.zero_add]
          unfold stCells
          rw [List.getElem?_append_left (by simpa [V8.l] using hj)]
          exact hv)
        have hturn := turn_calls wr.drew VK A' c' _ ht64 (HRDr.out.drew.take 64) (by omega)
        rw [hVN] at hturn
        have HTURN := Lib.hid hturn
        have HVN := Lib.hid hVN; have HVK := Lib.hid hVK
        have HDL := Lib.hid hdl
        clear hdl ht64 hturn hVN hVK
        refine seq_begin (by kernel_rfl) ?_
        refine seq_take (i := 0) (v := (.pointer (some ⟨p, 0, none⟩))) (d := 35) rfl (by kernel_rfl) (by kernel_rfl) (by kernel_rfl) (by kernel_rfl) (by kernel_rfl) (fun _ _ _ h => h) ?_ ?_
        · intro w9; kernel_rfl
        try simp only [Act.put, List.setIfInBounds_toArray, List.set_cons_zero, List.set_cons_succ]
        refine seq_take (i := 1) (v := (.pointer (some ⟨p, 0, none⟩))) (d := 36) rfl (by kernel_rfl) (by kernel_rfl) (by kernel_rfl) (by kernel_rfl) (by kernel_rfl) (fun _ _ _ h => h) ?_ ?_
        · intro w9; kernel_rfl
        try simp only [Act.put, List.setIfInBounds_toArray, List.set_cons_zero, List.set_cons_succ]
        refine seq_take (i := 2) (v := (.pointer (some ⟨p, 0, none⟩))) (d := 37) rfl (by kernel_rfl) (by kernel_rfl) (by kernel_rfl) (by kernel_rfl) (by kernel_rfl) (fun _ _ _ h => h) ?_ ?_
        · intro w9; kernel_rfl
        try simp only [Act.put, List.setIfInBounds_toArray, List.set_cons_zero, List.set_cons_succ]
        refine seq_take (i := 3) (v := (.pointer (some ⟨p, 0, none⟩))) (d := 38) rfl (by kernel_rfl) (by kernel_rfl) (by kernel_rfl) (by kernel_rfl) (by kernel_rfl) (fun _ _ _ h => h) ?_ ?_
        · intro w9; kernel_rfl
        try simp only [Act.put, List.setIfInBounds_toArray, List.set_cons_zero, List.set_cons_succ]
        refine seq_take (i := 5) (v := (.slice A' r c')) (d := 40) rfl (by kernel_rfl) (by kernel_rfl) (by kernel_rfl) (by kernel_rfl) (by kernel_rfl) (fun _ _ _ h => h) ?_ ?_
        · intro w9; kernel_rfl
        try simp only [Act.put, List.setIfInBounds_toArray, List.set_cons_zero, List.set_cons_succ]
        refine seq_take (i := 6) (v := (.slice A' 64 c')) (d := 41) rfl (by kernel_rfl) (by kernel_rfl) (by kernel_rfl) (by kernel_rfl) (by kernel_rfl) (fun _ _ _ h => h) ?_ ?_
        · intro w9; go_simp
        try simp only [Act.put, List.setIfInBounds_toArray, List.set_cons_zero, List.set_cons_succ]
        refine seq_only (i := 4) rfl (by kernel_rfl) (by kernel_rfl) ?_
        have hr4 := fun (a : Act) (o : Oper) (K : Act → World → Prop) (Q : Exit → Act → World → Prop) => @sq_load Try.prog Q a o wr.drew K 69 (.tmp 38) p 0 (u32s VK.l) (.array 8 68) 39
        refine hr4 _ _ _ _ ?_ ?_ ?_ ?_ ?_ ?_ ?_ ?_
        · kernel_rfl
        · kernel_rfl
        · kernel_rfl
        · exact HCELL.out
        · exact Try.underlying69
        · rfl
        · exact arr8_size
        clear hr4
        try simp only [Act.put, List.setIfInBounds_toArray, List.set_cons_zero, List.set_cons_succ]
        refine seq_only (i := 7) rfl (by kernel_rfl) (by kernel_rfl) ?_
        have hr7 := fun (a : Act) (o : Oper) (K : Act → World → Prop) (Q : Exit → Act → World → Prop) => @sq_call Try.prog Q a o wr.drew K (Agg (.agg (u32s VN.l).toArray) wr.drew) 47 #[.agg (u32s VK.l).toArray, .slice A' 64 c'] 42
        refine hr7 _ _ _ _ ?_ ?_ ?_ ?_
        · kernel_rfl
        · kernel_rfl
        · exact HTURN.out
        rintro e w9 ⟨rfl, f9⟩
        refine ⟨_, rfl, ?_⟩
        have F9 := Lib.hid f9
        have HB9 := Lib.hid (HBr.out.drew.fr f9 (by simp))
        clear hr7 f9
        try simp only [Act.put, List.setIfInBounds_toArray, List.set_cons_zero, List.set_cons_succ]
        refine seq_take (i := 8) (v := (.pointer (some ⟨p, 0, none⟩))) (d := 43) rfl (by kernel_rfl) (by kernel_rfl) (by kernel_rfl) (by kernel_rfl) (by kernel_rfl) (fun _ _ _ h => h) ?_ ?_
        · intro w9; kernel_rfl
        try simp only [Act.put, List.setIfInBounds_toArray, List.set_cons_zero, List.set_cons_succ]
        refine seq_take (i := 9) (v := (.pointer (some ⟨p, 0, none⟩))) (d := 44) rfl (by kernel_rfl) (by kernel_rfl) (by kernel_rfl) (by kernel_rfl) (by kernel_rfl) (fun _ _ _ h => h) ?_ ?_
        · intro w9; kernel_rfl
        try simp only [Act.put, List.setIfInBounds_toArray, List.set_cons_zero, List.set_cons_succ]
        refine seq_only (i := 10) rfl (by kernel_rfl) (by kernel_rfl) ?_
        have hr10 := fun (a : Act) (o : Oper) (K : Act → World → Prop) (Q : Exit → Act → World → Prop) => @sq_store Try.prog Q a o w9 K 69 (.tmp 44) (.tmp 42) p 0 (u32s VN.l) (stCells VK A m c (N + n)) 72
        refine hr10 _ _ _ _ ?_ ?_ ?_ ?_ ?_ ?_ ?_ ?_ ?_
        · kernel_rfl
        · kernel_rfl
        · kernel_rfl
        · kernel_rfl
        · exact HB9.out
        · rw [stCells_length]; simp [V8.l]
        · exact u32s_one _
        · exact arr8_size
        clear hr10
        try simp only [Act.put, List.setIfInBounds_toArray, List.set_cons_zero, List.set_cons_succ]
        refine wpAnyH_done (by kernel_rfl) ?_ _
        go_upto_region 6 with fail
        rw [set07]
        have hbn9 := HB9.out.setRow_ (stCells VN A m c (N + n)).toArray
        have hfn9 := (((HFr.out.drew).trans' F9.out (by simp)).setRow (g := p) (.inl (by simp)) (stCells VN A m c (N + n)).toArray)
        have hfr9 := ((((Fr.refl [p] wr).drew).trans' F9.out (by simp)).setRow (g := p) (.inl (by simp)) (stCells VN A m c (N + n)).toArray)
        have hrd9 := (HRDr.out.fr hfr9 (fun b off hb => by have := (HIN.out _ hb).1; simp at this; have := HPG.out; simp; omega))
        obtain ⟨WN, hWN⟩ : ∃ WN, w9.setRow p (stCells VN A m c (N + n)).toArray = WN := ⟨_, rfl⟩
        rw [hWN] at hbn9 hfn9 hrd9 ⊢
        have HBN := Lib.hid hbn9; have HFN := Lib.hid hfn9; have HRN := Lib.hid hrd9
        clear hbn9 hfn9 hfr9 hrd9 hWN HB9 F9 HTURN HCELL
        by_cases hcc : c' = 64
        · subst hcc
          obtain rfl : r = 64 := by omega
          go_wp2_with fail
          go_roundg (M - 64 * (k + 1))
          case measure => have := HR.out; omega
          case rel =>
            have hr64 := HR.out
            have hd9 := rdDrop HRN.out 64 64 (by rw [HDL.out]; omega) (by rw [HDL.out]; omega)
            rw [if_pos rfl, List.drop_drop] at hd9
            refine ⟨k + 1, A', 0, by omega, rfl, by rw [show M - 64 * (k + 1) = 0 by omega], by omega, HIN.out, hd9, ?_, HFN.out⟩
            rw [turnN, HVK.out, HVN.out]
            exact HBN.out
        · have hccI : (64 : Int) < (c' : Int) := by omega
          go_wp2_with fail
          go_roundg (M - 64 * (k + 1))
          case measure => have := HR.out; omega
          case rel =>
            have hr64 := HR.out
            have hd9 := rdDrop HRN.out 64 c' (by rw [HDL.out]; omega) (by rw [HDL.out]; omega)
            rw [if_neg hcc, List.drop_drop] at hd9
            have hin := HIN.out.map 64 c'
            rw [if_neg hcc] at hin
            refine ⟨k + 1, _, c' - 64, by omega, rfl, by rw [show M - 64 * (k + 1) = r - 64 by omega]; rfl, by omega, hin, hd9, ?_, HFN.out⟩
            rw [turnN, HVK.out, HVN.out]
            exact HBN.out
      · have c8 : wr.cell? ⟨p, 8, none⟩ = some (.slice A m c) := by rw [HBr.out.cell]; simp [stCells, V8.l, u32s]
        have hz := HBr.out.frozen
        go_wp2_with fail
        go_end0
        have hrr := HR.out
        have hk64 : all.length / 64 = k := by rw [HLEN2.out]; omega
        have hLl : (l ++ b).length = N + n := by rw [List.length_append, HN.out, HNB.out]
        have hmod : (N + n) % 64 = r := by have := HME.out; have := HM.out; rw [HN.out] at this; omega
        have hset := HBr.out.set_ 8 (.slice A' r c')
        rw [set8] at hset
        have hfs := HFr.out.setCell (p := ⟨p, 8, none⟩) (.inl (by simp)) (.slice A' r c')
        have hfs1 := (Fr.refl [p] wr).setCell (p := ⟨p, 8, none⟩) (.inl (by simp)) (.slice A' r c')
        refine ⟨rfl, A', ⟨⟨turned (l ++ b), c', ?_, by rw [hLl, hmod]; exact hc', fun _ => rfl⟩, ?_, by rw [hLl]; exact hbd⟩, fun bb off hb => ?_, hfs⟩
        · rw [hLl, hmod, turned_append, HALL.out, hk64]
          exact hset
        · rw [restB_append, HALL.out, hk64]
          exact HRDr.out.fr hfs1 (fun b off hb => by have := (HIN.out _ hb).1; simp at this; have := HPG.out; simp; omega)
        · have := (HIN.out _ hb).1; simp at this; have := HG2.out; omega
  · have hN0 : ((N : Int) == 0) = false := by
      have : N ≠ 0 := by rw [← HN.out]; intro h; exact hl (List.eq_nil_of_length_eq_zero h)
      simpa using this
    have hVt := HV.out hl
    subst hVt
    clear hl
    go_enter Try.func36, Try.ntmps36
    go_upto_region 2 with fail
    have hf2 : Fr [p] w w := Fr.refl _ _
    have hb2 := HB.out
    have HB2 := Lib.hid hb2; have HF2 := Lib.hid hf2
    clear hb2 hf2 HBEG hN0
    have hbig : (N : Int) + (n : Int) ≤ 200000000 := by omega
    go_upto_region 3 with fail
    have hb3 := HB2.out.set_ 9 (.int .u64 ((N + n : Nat) : Int))
    rw [set9] at hb3
    have hf3 := HF2.out.setCell (p := ⟨p, 9, none⟩) (.inl (by simp)) (.int .u64 ((N + n : Nat) : Int))
    rw [Int.natCast_add] at hb3 hf3
    obtain ⟨W2, hW2⟩ : ∃ W2, (w.setCell ⟨p, 9, none⟩ (.int .u64 ((N : Int) + (n : Int)))) = W2 := ⟨_, rfl⟩
    rw [hW2] at hb3 hf3 ⊢
    have hsz : w.heap.size ≤ W2.heap.size := hf3.size
    have hA2 : Rd W2 A (restB l) := HRD.out.fr0 hf3 (fun hl b off hb => by have := H.out.ne HRD.out hl hb; simpa using this)
    have hB2 : Rd W2 B b := HRB.out.fr0 hf3 (fun hl b off hb => by have := H.out.ne HRB.out hl hb; simpa using this)
    have hrl : (restB l).length = m := by rw [restB_length, HM.out]
    have hm64 : m < 64 := by rw [← HM.out]; omega
    have HB3 := Lib.hid hb3; have HF3 := Lib.hid hf3; have HA2 := Lib.hid hA2; have HBB := Lib.hid hB2; have HRL := Lib.hid hrl; have HSZ2 := Lib.hid hsz
    have hp2 : p < W2.heap.size := hb3.lt
    have c8 : (W2.alloc (.cells #[] 5)).cell? ⟨p, 8, none⟩ = some (.slice A m c) := cell_alloc (by rw [hb3.cell]; simp [stCells, V8.l, u32s]) _
    have hbm : m ≤ 1000000000 := by omega
    have hbmn : m + n ≤ 1000000000 := by omega
    have HP2 := Lib.hid hp2
    clear hb3 hf3 hA2 hB2 hrl hW2 HB2 HF2 c9 hz hsz hp2
    go_wp2_with (first
      | (at_builtin; refine copyU8 rfl (.tmp 24) (.tmp 28) rfl W2 _ rfl rfl rfl A m c (restB l) rfl HRL.out HA2.out hbm ?_; intro g1 c1 w3 ho1 hf1; have HO1 := Lib.hid ho1; have HF1 := Lib.hid hf1; have HB31 := Lib.hid (HBB.out.fr hf1 (by simp)); clear ho1 hf1)
      | (at_builtin; refine growU8 rfl (.tmp 29) (.tmp 30) rfl W2.heap.size _ m _ (restB l) rfl HO1.out B n cb b rfl HNB.out HB31.out hbmn HF1.out.size ?_; intro g2 c2 w4 ho2 hf2; have HO2 := Lib.hid ho2; have HF2 := Lib.hid (HF1.out.trans' hf2 (fun x hx => by simp at hx; subst hx; exact .inr (ownB_at HO1.out).2.1)); clear ho2 hf2))
    obtain ⟨hlen2, hg2, hc2, hcm2, tl, hblk2⟩ := ownB_at HO2.out
    have hrd2 := rdB_blk hblk2
    have hbp := HB3.out.fr HF2.out (by simp)
    have hfr := HF3.out.trans' HF2.out (by simp)
    obtain ⟨all, hall⟩ : ∃ all, restB l ++ b = all := ⟨_, rfl⟩
    rw [hall] at hlen2 hrd2
    have HALL := Lib.hid hall; have HLEN2 := Lib.hid hlen2; have HRD2 := Lib.hid hrd2; have HBP := Lib.hid hbp; have HFR := Lib.hid hfr
    have hg2p : w.heap.size ≤ g2 := Nat.le_trans HSZ2.out hg2
    have hpg : p ≠ g2 := by have := HP2.out; omega
    have HG2 := Lib.hid hg2p; have HPG := Lib.hid hpg
    obtain ⟨M, hMe⟩ : ∃ M, m + n = M := ⟨_, rfl⟩
    rw [hMe] at hc2 HLEN2
    have hMs : (m : Int) + (n : Int) = (M : Int) := by omega
    have HME := Lib.hid hMe
    rw [hMe]
    clear hall hlen2 hrd2 hbp hfr hblk2 hg2 hg2p hpg hcm2 HO2 HO1 HF1 HF2 HBB HB31 HB3 HF3 HA2 c8 hMs hMe
    go_loopg [4] M (fun gg v wr => ∃ (k : Nat) (A' : Option Addr) (c' : Nat), 64 * k ≤ M ∧ gg = M - 64 * k ∧ v = .slice A' (M - 64 * k) c' ∧ M - 64 * k ≤ c' ∧ InB g2 A' ∧ Rd wr A' (all.drop (64 * k)) ∧
      Blk wr p 72 (stCells (turnN (turned l) all k) A m c (N + n)).toArray ∧ Fr [p] w wr)
    case atStart => exact ⟨0, _, _, by omega, by omega, rfl, by omega, (by intro ad hA; cases hA; exact ⟨rfl, rfl⟩), by simpa using HRD2.out, HBP.out, HFR.out⟩
    case round =>
      obtain ⟨k, A', c', hk, rfl, rfl, hc', hin, hrd, hblk, hfr⟩ := hrel
      obtain ⟨r, hr⟩ : ∃ r, M - 64 * k = r := ⟨_, rfl⟩
      rw [hr] at hc' ⊢
      have HR := Lib.hid hr; have HIN := Lib.hid hin; have HRDr := Lib.hid hrd; have HBr := Lib.hid hblk; have HFr := Lib.hid hfr
      clear hrd hblk hfr hin
      by_cases hlt : 64 ≤ r
      · clear hr
        go_wp2_with fail
        have h64c : (64 : Int) ≤ (c' : Int) := by omega
        obtain ⟨VK, hVK⟩ : ∃ x, turnN (turned l) all k = x := ⟨_, rfl⟩
        rw [hVK] at HBr
        obtain ⟨VN, hVN⟩ : ∃ x, turnF VK ((all.drop (64 * k)).take 64) = x := ⟨_, rfl⟩
        have h64r : (64 : Int) ≤ (r : Int) := by omega
        have hdl : (all.drop (64 * k)).length = r := by rw [List.length_drop, HLEN2.out, HR.out]
        have ht64 : ((all.drop (64 * k)).take 64).length = 64 := by rw [List.length_take, hdl]; omega
        have HCELL := Lib.hid (show ∀ j v, (u32s VK.l)[j]? = some v → wr.drew.cell? ⟨p, 0 + j, none⟩ = some v from fun j v hv => by
          have hj : j < 8 := by have := (List.getElem?_eq_some_iff.1 hv).1; simpa [V8.l] using this
          rw [HBr.out.drew.cell, List.getElem?_toArray, Nat.zero_add]
          unfold stCells
          rw [List.getElem?_append_left (by simpa [V8.l] using hj)]
          exact hv)
        have hturn := turn_calls wr.drew VK A' c' _ ht64 (HRDr.out.drew.take 64) (by omega)
        rw [hVN] at hturn
        have HTURN := Lib.hid hturn
        have HVN := Lib.hid hVN; have HVK := Lib.hid hVK
        have HDL := Lib.hid hdl
        clear hdl ht64 hturn hVN hVK
        refine seq_begin (by kernel_rfl) ?_
        refine seq_take (i := 0) (v := (.pointer (some ⟨p, 0, none⟩))) (d := 35) rfl (by kernel_rfl) (by kernel_rfl) (by kernel_rfl) (by kernel_rfl) (by kernel_rfl) (fun _ _ _ h => h) ?_ ?_
        · intro w9; kernel_rfl
        try simp only [Act.put, List.setIfInBounds_toArray, List.set_cons_zero, List.set_cons_succ]
        refine seq_take (i := 1) (v := (.pointer (some ⟨p, 0, none⟩))) (d := 36) rfl (by kernel_rfl) (by kernel_rfl) (by kernel_rfl) (by kernel_rfl) (by kernel_rfl) (fun _ _ _ h => h) ?_ ?_
        · intro w9; kernel_rfl
        try simp only [Act.put, List.setIfInBounds_toArray, List.set_cons_zero, List.set_cons_succ]
        refine seq_take (i := 2) (v := (.pointer (some ⟨p, 0, none⟩))) (d := 37) rfl (by kernel_rfl) (by kernel_rfl) (by kernel_rfl) (by kernel_rfl) (by kernel_rfl) (fun _ _ _ h => h) ?_ ?_
        · intro w9; kernel_rfl
        try simp only [Act.put, List.setIfInBounds_toArray, List.set_cons_zero, List.set_cons_succ]
        refine seq_take (i := 3) (v := (.pointer (some ⟨p, 0, none⟩))) (d := 38) rfl (by kernel_rfl) (by kernel_rfl) (by kernel_rfl) (by kernel_rfl) (by kernel_rfl) (fun _ _ _ h => h) ?_ ?_
        · intro w9; kernel_rfl
        try simp only [Act.put, List.setIfInBounds_toArray, List.set_cons_zero, List.set_cons_succ]
        refine seq_take (i := 5) (v := (.slice A' r c')) (d := 40) rfl (by kernel_rfl) (by kernel_rfl) (by kernel_rfl) (by kernel_rfl) (by kernel_rfl) (fun _ _ _ h => h) ?_ ?_
        · intro w9; kernel_rfl
        try simp only [Act.put, List.setIfInBounds_toArray, List.set_cons_zero, List.set_cons_succ]
        refine seq_take (i := 6) (v := (.slice A' 64 c')) (d := 41) rfl (by kernel_rfl) (by kernel_rfl) (by kernel_rfl) (by kernel_rfl) (by kernel_rfl) (fun _ _ _ h => h) ?_ ?_
        · intro w9; go_simp
        try simp only [Act.put, List.setIfInBounds_toArray, List.set_cons_zero, List.set_cons_succ]
        refine seq_only (i := 4) rfl (by kernel_rfl) (by kernel_rfl) ?_
        have hr4 := fun (a : Act) (o : Oper) (K : Act → World → Prop) (Q : Exit → Act → World → Prop) => @sq_load Try.prog Q a o wr.drew K 69 (.tmp 38) p 0 (u32s VK.l) (.array 8 68) 39
        refine hr4 _ _ _ _ ?_ ?_ ?_ ?_ ?_ ?_ ?_ ?_
        · kernel_rfl
        · kernel_rfl
        · kernel_rfl
        · exact HCELL.out
        · exact Try.underlying69
        · rfl
        · exact arr8_size
        clear hr4
        try simp only [Act.put, List.setIfInBounds_toArray, List.set_cons_zero, List.set_cons_succ]
        refine seq_only (i := 7) rfl (by kernel_rfl) (by kernel_rfl) ?_
        have hr7 := fun (a : Act) (o : Oper) (K : Act → World → Prop) (Q : Exit → Act → World → Prop) => @sq_call Try.prog Q a o wr.drew K (Agg (.agg (u32s VN.l).toArray) wr.drew) 47 #[.agg (u32s VK.l).toArray, .slice A' 64 c'] 42
        refine hr7 _ _ _ _ ?_ ?_ ?_ ?_
        · kernel_rfl
        · kernel_rfl
        · exact HTURN.out
        rintro e w9 ⟨rfl, f9⟩
        refine ⟨_, rfl, ?_⟩
        have F9 := Lib.hid f9
        have HB9 := Lib.hid (HBr.out.drew.fr f9 (by simp))
        clear hr7 f9
        try simp only [Act.put, List.setIfInBounds_toArray, List.set_cons_zero, List.set_cons_succ]
        refine seq_take (i := 8) (v := (.pointer (some ⟨p, 0, none⟩))) (d := 43) rfl (by kernel_rfl) (by kernel_rfl) (by kernel_rfl) (by kernel_rfl) (by kernel_rfl) (fun _ _ _ h => h) ?_ ?_
        · intro w9; kernel_rfl
        try simp only [Act.put, List.setIfInBounds_toArray, List.set_cons_zero, List.set_cons_succ]
        refine seq_take (i := 9) (v := (.pointer (some ⟨p, 0, none⟩))) (d := 44) rfl (by kernel_rfl) (by kernel_rfl) (by kernel_rfl) (by kernel_rfl) (by kernel_rfl) (fun _ _ _ h => h) ?_ ?_
        · intro w9; kernel_rfl
        try simp only [Act.put, List.setIfInBounds_toArray, List.set_cons_zero, List.set_cons_succ]
        refine seq_only (i := 10) rfl (by kernel_rfl) (by kernel_rfl) ?_
        have hr10 := fun (a : Act) (o : Oper) (K : Act → World → Prop) (Q : Exit → Act → World → Prop) => @sq_store Try.prog Q a o w9 K 69 (.tmp 44) (.tmp 42) p 0 (u32s VN.l) (stCells VK A m c (N + n)) 72
        refine hr10 _ _ _ _ ?_ ?_ ?_ ?_ ?_ ?_ ?_ ?_ ?_
        · kernel_rfl
        · kernel_rfl
        · kernel_rfl
        · kernel_rfl
        · exact HB9.out
        · rw [stCells_length]; simp [V8.l]
        · exact u32s_one _
        · exact arr8_size
        clear hr10
        try simp only [Act.put, List.setIfInBounds_toArray, List.set_cons_zero, List.set_cons_succ]
        refine wpAnyH_done (by kernel_rfl) ?_ _
        go_upto_region 6 with fail
        rw [set07]
        have hbn9 := HB9.out.setRow_ (stCells VN A m c (N + n)).toArray
        have hfn9 := (((HFr.out.drew).trans' F9.out (by simp)).setRow (g := p) (.inl (by simp)) (stCells VN A m c (N + n)).toArray)
        have hfr9 := ((((Fr.refl [p] wr).drew).trans' F9.out (by simp)).setRow (g := p) (.inl (by simp)) (stCells VN A m c (N + n)).toArray)
        have hrd9 := (HRDr.out.fr hfr9 (fun b off hb => by have := (HIN.out _ hb).1; simp at this; have := HPG.out; simp; omega))
        obtain ⟨WN, hWN⟩ : ∃ WN, w9.setRow p (stCells VN A m c (N + n)).toArray = WN := ⟨_, rfl⟩
        rw [hWN] at hbn9 hfn9 hrd9 ⊢
        have HBN := Lib.hid hbn9; have HFN := Lib.hid hfn9; have HRN := Lib.hid hrd9
        clear hbn9 hfn9 hfr9 hrd9 hWN HB9 F9 HTURN HCELL
        by_cases hcc : c' = 64
        · subst hcc
          obtain rfl : r = 64 := by omega
          go_wp2_with fail
          go_roundg (M - 64 * (k + 1))
          case measure => have := HR.out; omega
          case rel =>
            have hr64 := HR.out
            have hd9 := rdDrop HRN.out 64 64 (by rw [HDL.out]; omega) (by rw [HDL.out]; omega)
            rw [if_pos rfl, List.drop_drop] at hd9
            refine ⟨k + 1, A', 0, by omega, rfl, by rw [show M - 64 * (k + 1) = 0 by omega], by omega, HIN.out, hd9, ?_, HFN.out⟩
            rw [turnN, HVK.out, HVN.out]
            exact HBN.out
        · have hccI : (64 : Int) < (c' : Int) := by omega
          go_wp2_with fail
          go_roundg (M - 64 * (k + 1))
          case measure => have := HR.out; omega
          case rel =>
            have hr64 := HR.out
            have hd9 := rdDrop HRN.out 64 c' (by rw [HDL.out]; omega) (by rw [HDL.out]; omega)
            rw [if_neg hcc, List.drop_drop] at hd9
            have hin := HIN.out.map 64 c'
            rw [if_neg hcc] at hin
            refine ⟨k + 1, _, c' - 64, by omega, rfl, by rw [show M - 64 * (k + 1) = r - 64 by omega]; rfl, by omega, hin, hd9, ?_, HFN.out⟩
            rw [turnN, HVK.out, HVN.out]
            exact HBN.out
      · have c8 : wr.cell? ⟨p, 8, none⟩ = some (.slice A m c) := by rw [HBr.out.cell]; simp [stCells, V8.l, u32s]
        have hz := HBr.out.frozen
        go_wp2_with fail
        go_end0
        have hrr := HR.out
        have hk64 : all.length / 64 = k := by rw [HLEN2.out]; omega
        have hLl : (l ++ b).length = N + n := by rw [List.length_append, HN.out, HNB.out]
        have hmod : (N + n) % 64 = r := by have := HME.out; have := HM.out; rw [HN.out] at this; omega
        have hset := HBr.out.set_ 8 (.slice A' r c')
        rw [set8] at hset
        have hfs := HFr.out.setCell (p := ⟨p, 8, none⟩) (.inl (by simp)) (.slice A' r c')
        have hfs1 := (Fr.refl [p] wr).setCell (p := ⟨p, 8, none⟩) (.inl (by simp)) (.slice A' r c')
        refine ⟨rfl, A', ⟨⟨turned (l ++ b), c', ?_, by rw [hLl, hmod]; exact hc', fun _ => rfl⟩, ?_, by rw [hLl]; exact hbd⟩, fun bb off hb => ?_, hfs⟩
        · rw [hLl, hmod, turned_append, HALL.out, hk64]
          exact hset
        · rw [restB_append, HALL.out, hk64]
          exact HRDr.out.fr hfs1 (fun b off hb => by have := (HIN.out _ hb).1; simp at this; have := HPG.out; simp; omega)
        · have := (HIN.out _ hb).1; simp at this; have := HG2.out; omega
end Go.Proofs.Ytmgbimdebhhckaa
