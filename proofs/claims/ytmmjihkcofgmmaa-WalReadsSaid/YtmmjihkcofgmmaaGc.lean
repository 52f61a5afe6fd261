/- The texts ShaF ShaG ShaH ShaI Dig2 of this seat, one behind another; what each says stands at its head. -/
import Derived.Test.YtmmjihkcofgmmaaGb
import Derived.Stop.BytesEq

/- SHA-256: a sum under way: New, Write. -/
namespace Go.Proofs.Ytmmjihkcofgmmaa
open Go.RowKit
set_option maxRecDepth 100000

def H0 : V8 := ⟨1779033703, 3144134277, 1013904242, 2773480762, 1359893119, 2600822924, 528734635, 1541459225⟩
theorem H0_l : H0.l = Hw := rfl
/-- k blocks are turned in -/
def turnN (h : V8) (l : List UInt8) : Nat → V8
  | 0 => h
  | k + 1 => turnF (turnN h l k) ((l.drop (64 * k)).take 64)
theorem turnN_append (h : V8) (l m : List UInt8) : ∀ k, 64 * k ≤ l.length → turnN h (l ++ m) k = turnN h l k
  | 0, _ => rfl
  | k + 1, hk => by
    rw [turnN, turnN, turnN_append h l m k (by omega), List.drop_append_of_le_length (by omega), List.take_append_of_le_length (by simp; omega)]
theorem turnN_add (h : V8) (l : List UInt8) (a : Nat) : ∀ b, turnN h l (a + b) = turnN (turnN h l a) (l.drop (64 * a)) b
  | 0 => rfl
  | b + 1 => by
    rw [← Nat.add_assoc, turnN, turnN_add h l a b, turnN, List.drop_drop, show 64 * (a + b) = 64 * a + 64 * b by omega]
/-- behind all whole blocks -/
def turned (l : List UInt8) : V8 := turnN H0 l (l.length / 64)
def restB (l : List UInt8) : List UInt8 := l.drop (64 * (l.length / 64))
theorem restB_length (l : List UInt8) : (restB l).length = l.length % 64 := by simp [restB]; omega
theorem turned_append (l b : List UInt8) : turned (l ++ b) = turnN (turned l) (restB l ++ b) ((restB l ++ b).length / 64) := by
  unfold turned
  have e : (l ++ b).length / 64 = l.length / 64 + (restB l ++ b).length / 64 := by simp [restB_length]; omega
  rw [e, turnN_add, turnN_append H0 l b _ (by omega), List.drop_append_of_le_length (by omega)]
  rfl
theorem restB_append (l b : List UInt8) : restB (l ++ b) = (restB l ++ b).drop (64 * ((restB l ++ b).length / 64)) := by
  unfold restB
  have e : (l ++ b).length / 64 = l.length / 64 + (l.drop (64 * (l.length / 64)) ++ b).length / 64 := by simp; omega
  rw [e, Nat.mul_add, ← List.drop_drop, List.drop_append_of_le_length (by omega)]
def stCells (V : V8) (A : Option Addr) (m c n : Nat) : List Value := u32s V.l ++ [.slice A m c, .int .u64 (n : Int)]
theorem stCells_length (V : V8) (A : Option Addr) (m c n : Nat) : (stCells V A m c n).length = 10 := by simp [stCells, V8.l]
/-- At block p lies a sum under way, of the text l; what fills no block lies at A. -/
structure StIs (w : World) (p : Nat) (l : List UInt8) (A : Option Addr) : Prop where
  blk : ∃ (V : V8) (c : Nat), Blk w p 119 (stCells V A (l.length % 64) c l.length).toArray ∧ l.length % 64 ≤ c ∧ (l ≠ [] → V = turned l)
  rd : Rd w A (restB l)
  len : l.length ≤ 100000000

theorem not_u8 {w : World} {p off : Nat} {t : TypeId} {V : V8} {A : Option Addr} {m c n : Nat} {x : UInt8} (h : Blk w p t (stCells V A m c n).toArray) : w.cell? ⟨p, off, none⟩ ≠ some (u8v x) := by
  rw [h.cell, List.getElem?_toArray]
  intro hc
  have := List.mem_of_getElem? hc
  simp [stCells, u32s, u32v, u8v] at this
theorem StIs.ne {w : World} {p : Nat} {l m : List UInt8} {A B : Option Addr} (h : StIs w p l A) (hB : Rd w B m) (hm : 0 < m.length) {b off : Nat} (hb : B = some ⟨b, off, none⟩) : b ≠ p := by
  rintro rfl
  obtain ⟨V, c, hblk, _⟩ := h.blk
  obtain ⟨b', off', hB', hc⟩ := hB hm
  rw [hb] at hB'
  injection hB' with hB'
  injection hB' with h1 h2
  subst h1
  exact not_u8 hblk (hc 0 m[0] (by simp))
theorem StIs.fr {S : List Nat} {w w' : World} {p : Nat} {l : List UInt8} {A : Option Addr} (h : StIs w p l A) (hf : Fr S w w') (hp : p ∉ S) (hA : ∀ b off, A = some ⟨b, off, none⟩ → b ∉ S) : StIs w' p l A := by
  obtain ⟨⟨V, c, hb, hc, hV⟩, hr, hl⟩ := h
  exact ⟨⟨V, c, hb.fr hf hp, hc, hV⟩, hr.fr hf hA, hl⟩
theorem StIs.lt {w : World} {p : Nat} {l : List UInt8} {A : Option Addr} (h : StIs w p l A) : p < w.heap.size := by
  obtain ⟨⟨V, c, hb, _⟩, _, _⟩ := h
  exact hb.lt

theorem box_agg {P : Program} {ops : Array Oper} {rest : List Oper} {o : Oper} {a : Act} {w : World} {Q : Exit → Act → World → Prop} (hgd : o.guard = none) (ty : TypeId) (x : Operand) (ho : o.op = .box ty x)
    (cs : Array Value) (hx : a.eval x = .agg cs) (h : wpList P ops Q rest (a.put o.dst (.pointer (some ⟨w.heap.size, 0, none⟩))) (w.alloc (.cells cs ty))) : wpList P ops Q (o :: rest) a w := by
  refine wpList_val hgd _ _ ?_ h
  unfold execOp
  simp [ho, hx, Instr.box, newVar, newRow, newObj, Value.cells, Sem.run]

def NewS (w : World) (e : Ending) (w' : World) : Prop := ∃ p, e = .returned (.pointer (some ⟨p, 0, none⟩)) ∧ w.heap.size ≤ p ∧ StIs w' p [] none ∧ Fr [] w w'
theorem new_calls (w : World) : Calls Try.prog 71 #[] w (NewS w) := by
  have HB := Lib.hid (begin_calls w)
  go_enter Try.func71, Try.ntmps71
  go_wp2_with (go_at_call 76; (with_reducible refine HB.out.mono ?_); rintro e w1 ⟨rfl, f1⟩; have F1 := Lib.hid f1; clear f1)
  go_wp2_with (first
    | (refine wpList_val (o := ⟨some 2, _, _, _, _, _⟩) rfl (.agg (stCells H0 none 0 0 0).toArray) _ (by kernel_rfl) ?_)
    | (refine box_agg rfl 119 (.tmp 2) rfl (stCells H0 none 0 0 0).toArray rfl ?_))
  go_ret
  refine ⟨_, rfl, F1.out.size, ⟨⟨H0, 0, Blk.new _ _ _, by simp, by simp⟩, by simp [Rd, restB], by simp⟩, F1.out.alloc _⟩

theorem rdDrop {w : World} {A : Option Addr} {l : List UInt8} (h : Rd w A l) (n c : Nat) (hn : n ≤ l.length) (hc : l.length ≤ c) : Rd w (if c = n then A else A.map (·.add n)) (l.drop n) := by
  intro hl
  simp at hl
  obtain ⟨b, off, rfl, hcell⟩ := h (by omega)
  rw [if_neg (by omega)]
  refine ⟨b, off + n, by simp [addr_add0], fun j x hx => ?_⟩
  rw [List.getElem?_drop] at hx
  have := hcell (n + j) x hx
  rwa [Nat.add_assoc]
/-- an address in block g -/
def InB (g : Nat) (A : Option Addr) : Prop := ∀ ad, A = some ad → ad.block = g ∧ ad = ⟨ad.block, ad.off, none⟩
theorem InB.map {g : Nat} {A : Option Addr} (h : InB g A) (n c : Nat) : InB g (if c = n then A else A.map (·.add n)) := by
  intro ad hA
  split at hA
  · exact h ad hA
  · cases A with
    | none => simp at hA
    | some ad' =>
      have h1 := h ad' rfl
      rw [h1.2, Option.map_some, addr_add0] at hA
      simp at hA
      subst hA
      exact ⟨h1.1, rfl⟩
theorem set9 (V : V8) (A : Option Addr) (m c n k : Nat) : (stCells V A m c n).toArray.setIfInBounds 9 (.int .u64 (k : Int)) = (stCells V A m c k).toArray := by simp [stCells, V8.l, u32s]
theorem set8 (V : V8) (A A' : Option Addr) (m c n m' c' : Nat) : (stCells V A m c n).toArray.setIfInBounds 8 (.slice A' m' c') = (stCells V A' m' c' n).toArray := by simp [stCells, V8.l, u32s]
theorem set07 (V V' : V8) (A : Option Addr) (m c n : Nat) : splice (stCells V A m c n) 0 (u32s V'.l) = stCells V' A m c n := by simp [stCells, V8.l, u32s, splice]

def WriteS (w : World) (p : Nat) (l b : List UInt8) (e : Ending) (w' : World) : Prop :=
  e = .returned (.tuple #[]) ∧ ∃ A', StIs w' p (l ++ b) A' ∧ (∀ bb off, A' = some ⟨bb, off, none⟩ → w.heap.size ≤ bb) ∧ Fr [p] w w'
set_option maxHeartbeats 2000000 in
theorem write_calls (w : World) (p : Nat) (l : List UInt8) (A : Option Addr) (h : StIs w p l A) (B : Option Addr) (n cb : Nat) (b : List UInt8) (hn : b.length = n) (hB : Rd w B b) (hbd : l.length + n ≤ 100000000) :
    Calls Try.prog 72 #[.pointer (some ⟨p, 0, none⟩), .slice B n cb] w (WriteS w p l b) := by
  have H := Lib.hid h
  obtain ⟨⟨V, c, hblk, hc, hV⟩, hrd, hlen⟩ := h
  obtain ⟨N, hN⟩ : ∃ N, l.length = N := ⟨_, rfl⟩
  obtain ⟨m, hm⟩ : ∃ m, l.length % 64 = m := ⟨_, rfl⟩
  rw [hm] at hblk hc
  rw [hN] at hblk hbd
  have HB := Lib.hid hblk; have HV := Lib.hid hV; have HRD := Lib.hid hrd; have HM := Lib.hid hm; have HN := Lib.hid hN; have HRB := Lib.hid hB; have HNB := Lib.hid hn
  have HBEG := Lib.hid (begin_calls w)
  have c9 : w.cell? ⟨p, 9, none⟩ = some (.int .u64 (N : Int)) := by rw [hblk.cell]; simp [stCells, V8.l, u32s]
  have hz := hblk.frozen
  have hbN : (N : Int) ≤ 100000000 := by omega
  have hbn : (n : Int) ≤ 100000000 := by omega
  have HSZ := Lib.hid (show (Try.prog.info? 116).map (·.size) = some (u32s Hw).length from arr8_size)
  clear hblk hV hrd hm hN hB hn hlen
  by_cases hl : l = []
  · have hN0 : ((N : Int) == 0) = true := by rw [← HN.out, hl]; rfl
    have HL := Lib.hid hl
    clear hl
    go_enter Try.func72, Try.ntmps72
    go_upto_region 2 with (first
      | (go_at_call 76; (with_reducible refine HBEG.out.mono ?_); rintro e w1 ⟨rfl, f1⟩; have F1 := Lib.hid f1; have HB1 := Lib.hid (HB.out.fr f1 (by simp)); clear f1 c9 hz)
      | (refine wpList_store_agg rfl 116 (.tmp 13) (.tmp 11) rfl p 0 rfl (u32s Hw) rfl (stCells V A m c N) 119 HB1.out (by rw [stCells_length]; decide) (u32s_one _) HSZ.out ?_))
    have hb2 := HB1.out.setRow_ (splice (stCells V A m c N) 0 (u32s Hw)).toArray
    have hf2 := (F1.out.mono (T := [p]) (by simp)).setRow (g := p) (.inl (by simp)) (splice (stCells V A m c N) 0 (u32s Hw)).toArray
    rw [← H0_l, set07, show H0 = turned l by rw [HL.out]; rfl] at hb2
    rw [← H0_l, set07, show H0 = turned l by rw [HL.out]; rfl] at hf2 ⊢
    obtain ⟨W1, hW1⟩ : ∃ W1, w1.setRow p (stCells (turned l) A m c N).toArray = W1 := ⟨_, rfl⟩
    rw [hW1] at hb2 hf2 ⊢
    have HB2 := Lib.hid hb2; have HF2 := Lib.hid hf2
    have c9 : W1.cell? ⟨p, 9, none⟩ = some (.int .u64 (N : Int)) := by rw [hb2.cell]; simp [stCells, V8.l, u32s]
    have hz := hb2.frozen
    clear hW1 hb2 hf2 HBEG HB1 F1 hN0
    clear w1
    simp only [Act.put]
    have hbig : (N : Int) + (n : Int) ≤ 200000000 := by omega
    go_upto_region 3 with fail
    have hb3 := HB2.out.set_ 9 (.int .u64 ((N + n : Nat) : Int))
    rw [set9] at hb3
    have hf3 := HF2.out.setCell (p := ⟨p, 9, none⟩) (.inl (by simp)) (.int .u64 ((N + n : Nat) : Int))
    rw [Int.natCast_add] at hb3 hf3
    obtain ⟨W2, hW2⟩ : ∃ W2, (W1.setCell ⟨p, 9, none⟩ (.int .u64 ((N : Int) + (n : Int)))) = W2 := ⟨_, rfl⟩
    rw [hW2] at hb3 hf3 ⊢
    have hsz : w.heap.size ≤ W2.heap.size := hf3.size
    have hA2 : Rd W2 A (restB l) := HRD.out.fr0 hf3 (fun hl b off hb => by have := H.out.ne HRD.out hl hb; simpa using this)
    have hB2 : Rd W2 B b := HRB.out.fr0 hf3 (fun hl b off hb => by have := H.out.ne HRB.out hl hb; simpa using this)
    have hrl : (restB l).length = m := by rw [restB_length, HM.out]
    have hm64 : m < 64 := by rw [← HM.out]; omega
    have HB3 := Lib.hid hb3; have HF3 := Lib.hid hf3; have HA2 := Lib.hid hA2; have HBB := Lib.hid hB2; have HRL := Lib.hid hrl; have HSZ2 := Lib.hid hsz
    have hp2 : p < W2.heap.size := hb3.lt
    have c8 : (W2.alloc (.cells #[] 5)).cell? ⟨p, 8, none⟩ = some (.slice A m c) := cell_alloc (by rw [hb3.cell]; simp [stCells, V8.l, u32s]) _
    have hbm : m ≤ 1000000000 := by omega
    have hbmn : m + n ≤ 1000000000 := by omega
    have HP2 := Lib.hid hp2
    clear hb3 hf3 hA2 hB2 hrl hW2 HB2 HF2 c9 hz hsz hp2
    go_wp2_with (first
      | (at_builtin; refine copyU8 rfl (.tmp 24) (.tmp 28) rfl W2 _ rfl rfl rfl A m c (restB l) rfl HRL.out HA2.out hbm ?_; intro g1 c1 w3 ho1 hf1; have HO1 := Lib.hid ho1; have HF1 := Lib.hid hf1; have HB31 := Lib.hid (HBB.out.fr hf1 (by simp)); clear ho1 hf1)
      | (at_builtin; refine growU8 rfl (.tmp 29) (.tmp 30) rfl W2.heap.size _ m _ (restB l) rfl HO1.out B n cb b rfl HNB.out HB31.out hbmn HF1.out.size ?_; intro g2 c2 w4 ho2 hf2; have HO2 := Lib.hid ho2; have HF2 := Lib.hid (HF1.out.trans' hf2 (fun x hx => by simp at hx; subst hx; exact .inr (ownB_at HO1.out).2.1)); clear ho2 hf2))
    obtain ⟨hlen2, hg2, hc2, hcm2, tl, hblk2⟩ := ownB_at HO2.out
    have hrd2 := rdB_blk hblk2
    have hbp := HB3.out.fr HF2.out (by simp)
    have hfr := HF3.out.trans' HF2.out (by simp)
    obtain ⟨all, hall⟩ : ∃ all, restB l ++ b = all := ⟨_, rfl⟩
    rw [hall] at hlen2 hrd2
    have HALL := Lib.hid hall; have HLEN2 := Lib.hid hlen2; have HRD2 := Lib.hid hrd2; have HBP := Lib.hid hbp; have HFR := Lib.hid hfr
    have hg2p : w.heap.size ≤ g2 := Nat.le_trans HSZ2.out hg2
    have hpg : p ≠ g2 := by have := HP2.out; omega
    have HG2 := Lib.hid hg2p; have HPG := Lib.hid hpg
    obtain ⟨M, hMe⟩ : ∃ M, m + n = M := ⟨_, rfl⟩
    rw [hMe] at hc2 HLEN2
    have hMs : (m : Int) + (n : Int) = (M : Int) := by omega
    have HME := Lib.hid hMe
    rw [hMe]
    clear hall hlen2 hrd2 hbp hfr hblk2 hg2 hg2p hpg hcm2 HO2 HO1 HF1 HF2 HBB HB31 HB3 HF3 HA2 c8 hMs hMe
    go_loopg [4] M (fun gg v wr => ∃ (k : Nat) (A' : Option Addr) (c' : Nat), 64 * k ≤ M ∧ gg = M - 64 * k ∧ v = .slice A' (M - 64 * k) c' ∧ M - 64 * k ≤ c' ∧ InB g2 A' ∧ Rd wr A' (all.drop (64 * k)) ∧
      Blk wr p 119 (stCells (turnN (turned l) all k) A m c (N + n)).toArray ∧ Fr [p] w wr)
    case atStart => exact ⟨0, _, _, by omega, by omega, rfl, by omega, (by intro ad hA; cases hA; exact ⟨rfl, rfl⟩), by simpa using HRD2.out, HBP.out, HFR.out⟩
    case round =>
      obtain ⟨k, A', c', hk, rfl, rfl, hc', hin, hrd, hblk, hfr⟩ := hrel
      obtain ⟨r, hr⟩ : ∃ r, M - 64 * k = r := ⟨_, rfl⟩
      rw [hr] at hc' ⊢
      have HR := Lib.hid hr; have HIN := Lib.hid hin; have HRDr := Lib.hid hrd; have HBr := Lib.hid hblk; have HFr := Lib.hid hfr
      clear hrd hblk hfr hin
      by_cases hlt : 64 ≤ r
      · clear hr
        go_wp2_with fail
        have h64c : (64 : Int) ≤ (c' : Int) := by omega
        obtain ⟨VK, hVK⟩ : ∃ x, turnN (turned l) all k = x := ⟨_, rfl⟩
        rw [hVK] at HBr
        obtain ⟨VN, hVN⟩ : ∃ x, turnF VK ((all.drop (64 * k)).take 64) = x := ⟨_, rfl⟩
        have h64r : (64 : Int) ≤ (r : Int) := by omega
        have hdl : (all.drop (64 * k)).length = r := by rw [List.length_drop, HLEN2.out, HR.out]
        have ht64 : ((all.drop (64 * k)).take 64).length = 64 := by rw [List.length_take, hdl]; omega
        have HCELL := Lib.hid (show ∀ j v, (u32s VK.l)[j]? = some v → wr.drew.cell? ⟨p, 0 + j, none⟩ = some v from fun j v hv => by
          have hj : j < 8 := by have := (List.getElem?_eq_some_iff.1 hv).1; simpa [V8.l] using this
          rw [HBr.out.drew.cell, List.getElem?_toArray, Nat.zero_add]
          unfold stCells
          rw [List.getElem?_append_left (by simpa [V8.l] using hj)]
          exact hv)
        have hturn := turn_calls wr.drew VK A' c' _ ht64 (HRDr.out.drew.take 64) (by omega)
        rw [hVN] at hturn
        have HTURN := Lib.hid hturn
        have HVN := Lib.hid hVN; have HVK := Lib.hid hVK
        have HDL := Lib.hid hdl
        clear hdl ht64 hturn hVN hVK
        refine seq_begin (by kernel_rfl) ?_
        refine seq_take (i := 0) (v := (.pointer (some ⟨p, 0, none⟩))) (d := 35) rfl (by kernel_rfl) (by kernel_rfl) (by kernel_rfl) (by kernel_rfl) (by kernel_rfl) (fun _ _ _ h => h) ?_ ?_
        · intro w9; kernel_rfl
        try simp only [Act.put, List.setIfInBounds_toArray, List.set_cons_zero, List.set_cons_succ]
        refine seq_take (i := 1) (v := (.pointer (some ⟨p, 0, none⟩))) (d := 36) rfl (by kernel_rfl) (by kernel_rfl) (by kernel_rfl) (by kernel_rfl) (by kernel_rfl) (fun _ _ _ h => h) ?_ ?_
        · intro w9; kernel_rfl
        try simp only [Act.put, List.setIfInBounds_toArray, List.set_cons_zero, List.set_cons_succ]
        refine seq_take (i := 2) (v := (.pointer (some ⟨p, 0, none⟩))) (d := 37) rfl (by kernel_rfl) (by kernel_rfl) (by kernel_rfl) (by kernel_rfl) (by kernel_rfl) (fun _ _ _ h => h) ?_ ?_
        · intro w9; kernel_rfl
        try simp only [Act.put, List.setIfInBounds_toArray, List.set_cons_zero, List.set_cons_succ]
        refine seq_take (i := 3) (v := (.pointer (some ⟨p, 0, none⟩))) (d := 38) rfl (by kernel_rfl) (by kernel_rfl) (by kernel_rfl) (by kernel_rfl) (by kernel_rfl) (fun _ _ _ h => h) ?_ ?_
        · intro w9; kernel_rfl
        try simp only [Act.put, List.setIfInBounds_toArray, List.set_cons_zero, List.set_cons_succ]
        refine seq_take (i := 5) (v := (.slice A' r c')) (d := 40) rfl (by kernel_rfl) (by kernel_rfl) (by kernel_rfl) (by kernel_rfl) (by kernel_rfl) (fun _ _ _ h => h) ?_ ?_
        · intro w9; kernel_rfl
        try simp only [Act.put, List.setIfInBounds_toArray, List.set_cons_zero, List.set_cons_succ]
        refine seq_take (i := 6) (v := (.slice A' 64 c')) (d := 41) rfl (by kernel_rfl) (by kernel_rfl) (by kernel_rfl) (by kernel_rfl) (by kernel_rfl) (fun _ _ _ h => h) ?_ ?_
        · intro w9; go_simp
        try simp only [Act.put, List.setIfInBounds_toArray, List.set_cons_zero, List.set_cons_succ]
        refine seq_only (i := 4) rfl (by kernel_rfl) (by kernel_rfl) ?_
        have hr4 := fun (a : Act) (o : Oper) (K : Act → World → Prop) (Q : Exit → Act → World → Prop) => @sq_load Try.prog Q a o wr.drew K 116 (.tmp 38) p 0 (u32s VK.l) (.array 8 108) 39
        refine hr4 _ _ _ _ ?_ ?_ ?_ ?_ ?_ ?_ ?_ ?_
        · kernel_rfl
        · kernel_rfl
        · kernel_rfl
        · exact HCELL.out
        · exact Try.underlying116
        · rfl
        · exact arr8_size
        clear hr4
        try simp only [Act.put, List.setIfInBounds_toArray, List.set_cons_zero, List.set_cons_succ]
        refine seq_only (i := 7) rfl (by kernel_rfl) (by kernel_rfl) ?_
        have hr7 := fun (a : Act) (o : Oper) (K : Act → World → Prop) (Q : Exit → Act → World → Prop) => @sq_call Try.prog Q a o wr.drew K (Agg (.agg (u32s VN.l).toArray) wr.drew) 77 #[.agg (u32s VK.l).toArray, .slice A' 64 c'] 42
        refine hr7 _ _ _ _ ?_ ?_ ?_ ?_
        · kernel_rfl
        · kernel_rfl
        · exact HTURN.out
        rintro e w9 ⟨rfl, f9⟩
        refine ⟨_, rfl, ?_⟩
        have F9 := Lib.hid f9
        have HB9 := Lib.hid (HBr.out.drew.fr f9 (by simp))
        clear hr7 f9
        try simp only [Act.put, List.setIfInBounds_toArray, List.set_cons_zero, List.set_cons_succ]
        refine seq_take (i := 8) (v := (.pointer (some ⟨p, 0, none⟩))) (d := 43) rfl (by kernel_rfl) (by kernel_rfl) (by kernel_rfl) (by kernel_rfl) (by kernel_rfl) (fun _ _ _ h => h) ?_ ?_
        · intro w9; kernel_rfl
        try simp only [Act.put, List.setIfInBounds_toArray, List.set_cons_zero, List.set_cons_succ]
        refine seq_take (i := 9) (v := (.pointer (some ⟨p, 0, none⟩))) (d := 44) rfl (by kernel_rfl) (by kernel_rfl) (by kernel_rfl) (by kernel_rfl) (by kernel_rfl) (fun _ _ _ h => h) ?_ ?_
        · intro w9; kernel_rfl
        try simp only [Act.put, List.setIfInBounds_toArray, List.set_cons_zero, List.set_cons_succ]
        refine seq_only (i := 10) rfl (by kernel_rfl) (by kernel_rfl) ?_
        have hr10 := fun (a : Act) (o : Oper) (K : Act → World → Prop) (Q : Exit → Act → World → Prop) => @sq_store Try.prog Q a o w9 K 116 (.tmp 44) (.tmp 42) p 0 (u32s VN.l) (stCells VK A m c (N + n)) 119
        refine hr10 _ _ _ _ ?_ ?_ ?_ ?_ ?_ ?_ ?_ ?_ ?_
        · kernel_rfl
        · kernel_rfl
        · kernel_rfl
        · kernel_rfl
        · exact HB9.out
        · rw [stCells_length]; simp [V8.l]
        · exact u32s_one _
        · exact arr8_size
        clear hr10
        try simp only [Act.put, List.setIfInBounds_toArray, List.set_cons_zero, List.set_cons_succ]
        refine wpAnyH_done (by kernel_rfl) ?_ _
        go_upto_region 6 with fail
        rw [set07]
        have hbn9 := HB9.out.setRow_ (stCells VN A m c (N + n)).toArray
        have hfn9 := (((HFr.out.drew).trans' F9.out (by simp)).setRow (g := p) (.inl (by simp)) (stCells VN A m c (N + n)).toArray)
        have hfr9 := ((((Fr.refl [p] wr).drew).trans' F9.out (by simp)).setRow (g := p) (.inl (by simp)) (stCells VN A m c (N + n)).toArray)
        have hrd9 := (HRDr.out.fr hfr9 (fun b off hb => by have := (HIN.out _ hb).1; simp at this; have := HPG.out; simp; omega))
        obtain ⟨WN, hWN⟩ : ∃ WN, w9.setRow p (stCells VN A m c (N + n)).toArray = WN := ⟨_, rfl⟩
        rw [hWN] at hbn9 hfn9 hrd9 ⊢
        have HBN := Lib.hid hbn9; have HFN := Lib.hid hfn9; have HRN := Lib.hid hrd9
        clear hbn9 hfn9 hfr9 hrd9 hWN HB9 F9 HTURN HCELL
        by_cases hcc : c' = 64
        · subst hcc
          obtain rfl : r = 64 := by omega
          go_wp2_with fail
          go_roundg (M - 64 * (k + 1))
          case measure => have := HR.out; omega
          case rel =>
            have hr64 := HR.out
            have hd9 := rdDrop HRN.out 64 64 (by rw [HDL.out]; omega) (by rw [HDL.out]; omega)
            rw [if_pos rfl, List.drop_drop] at hd9
            refine ⟨k + 1, A', 0, by omega, rfl, by rw [show M - 64 * (k + 1) = 0 by omega], by omega, HIN.out, hd9, ?_, HFN.out⟩
            rw [turnN, HVK.out, HVN.out]
            exact HBN.out
        · have hccI : (64 : Int) < (c' : Int) := by omega
          go_wp2_with fail
          go_roundg (M - 64 * (k + 1))
          case measure => have := HR.out; omega
          case rel =>
            have hr64 := HR.out
            have hd9 := rdDrop HRN.out 64 c' (by rw [HDL.out]; omega) (by rw [HDL.out]; omega)
            rw [if_neg hcc, List.drop_drop] at hd9
            have hin := HIN.out.map 64 c'
            rw [if_neg hcc] at hin
            refine ⟨k + 1, _, c' - 64, by omega, rfl, by rw [show M - 64 * (k + 1) = r - 64 by omega]; rfl, by omega, hin, hd9, ?_, HFN.out⟩
            rw [turnN, HVK.out, HVN.out]
            exact HBN.out
      · have c8 : wr.cell? ⟨p, 8, none⟩ = some (.slice A m c) := by rw [HBr.out.cell]; simp [stCells, V8.l, u32s]
        have hz := HBr.out.frozen
        go_wp2_with fail
        go_end0
        have hrr := HR.out
        have hk64 : all.length / 64 = k := by rw [HLEN2.out]; omega
        have hLl : (l ++ b).length = N + n := by rw [List.length_append, HN.out, HNB.out]
        have hmod : (N + n) % 64 = r := by have := HME.out; have := HM.out; rw [HN.out] at this; omega
        have hset := HBr.out.set_ 8 (.slice A' r c')
        rw [set8] at hset
        have hfs := HFr.out.setCell (p := ⟨p, 8, none⟩) (.inl (by simp)) (.slice A' r c')
        have hfs1 := (Fr.refl [p] wr).setCell (p := ⟨p, 8, none⟩) (.inl (by simp)) (.slice A' r c')
        refine ⟨rfl, A', ⟨⟨turned (l ++ b), c', ?_, by rw [hLl, hmod]; exact hc', fun _ => rfl⟩, ?_, by rw [hLl]; exact hbd⟩, fun bb off hb => ?_, hfs⟩
        · rw [hLl, hmod, turned_append, HALL.out, hk64]
          exact hset
        · rw [restB_append, HALL.out, hk64]
          exact HRDr.out.fr hfs1 (fun b off hb => by have := (HIN.out _ hb).1; simp at this; have := HPG.out; simp; omega)
        · have := (HIN.out _ hb).1; simp at this; have := HG2.out; omega
  · have hN0 : ((N : Int) == 0) = false := by
      have : N ≠ 0 := by rw [← HN.out]; intro h; exact hl (List.eq_nil_of_length_eq_zero h)
      simpa using this
    have hVt := HV.out hl
    subst hVt
    clear hl
    go_enter Try.func72, Try.ntmps72
    go_upto_region 2 with fail
    have hf2 : Fr [p] w w := Fr.refl _ _
    have hb2 := HB.out
    have HB2 := Lib.hid hb2; have HF2 := Lib.hid hf2
    clear hb2 hf2 HBEG hN0
    have hbig : (N : Int) + (n : Int) ≤ 200000000 := by omega
    go_upto_region 3 with fail
    have hb3 := HB2.out.set_ 9 (.int .u64 ((N + n : Nat) : Int))
    rw [set9] at hb3
    have hf3 := HF2.out.setCell (p := ⟨p, 9, none⟩) (.inl (by simp)) (.int .u64 ((N + n : Nat) : Int))
    rw [Int.natCast_add] at hb3 hf3
    obtain ⟨W2, hW2⟩ : ∃ W2, (w.setCell ⟨p, 9, none⟩ (.int .u64 ((N : Int) + (n : Int)))) = W2 := ⟨_, rfl⟩
    rw [hW2] at hb3 hf3 ⊢
    have hsz : w.heap.size ≤ W2.heap.size := hf3.size
    have hA2 : Rd W2 A (restB l) := HRD.out.fr0 hf3 (fun hl b off hb => by have := H.out.ne HRD.out hl hb; simpa using this)
    have hB2 : Rd W2 B b := HRB.out.fr0 hf3 (fun hl b off hb => by have := H.out.ne HRB.out hl hb; simpa using this)
    have hrl : (restB l).length = m := by rw [restB_length, HM.out]
    have hm64 : m < 64 := by rw [← HM.out]; omega
    have HB3 := Lib.hid hb3; have HF3 := Lib.hid hf3; have HA2 := Lib.hid hA2; have HBB := Lib.hid hB2; have HRL := Lib.hid hrl; have HSZ2 := Lib.hid hsz
    have hp2 : p < W2.heap.size := hb3.lt
    have c8 : (W2.alloc (.cells #[] 5)).cell? ⟨p, 8, none⟩ = some (.slice A m c) := cell_alloc (by rw [hb3.cell]; simp [stCells, V8.l, u32s]) _
    have hbm : m ≤ 1000000000 := by omega
    have hbmn : m + n ≤ 1000000000 := by omega
    have HP2 := Lib.hid hp2
    clear hb3 hf3 hA2 hB2 hrl hW2 HB2 HF2 c9 hz hsz hp2
    go_wp2_with (first
      | (at_builtin; refine copyU8 rfl (.tmp 24) (.tmp 28) rfl W2 _ rfl rfl rfl A m c (restB l) rfl HRL.out HA2.out hbm ?_; intro g1 c1 w3 ho1 hf1; have HO1 := Lib.hid ho1; have HF1 := Lib.hid hf1; have HB31 := Lib.hid (HBB.out.fr hf1 (by simp)); clear ho1 hf1)
      | (at_builtin; refine growU8 rfl (.tmp 29) (.tmp 30) rfl W2.heap.size _ m _ (restB l) rfl HO1.out B n cb b rfl HNB.out HB31.out hbmn HF1.out.size ?_; intro g2 c2 w4 ho2 hf2; have HO2 := Lib.hid ho2; have HF2 := Lib.hid (HF1.out.trans' hf2 (fun x hx => by simp at hx; subst hx; exact .inr (ownB_at HO1.out).2.1)); clear ho2 hf2))
    obtain ⟨hlen2, hg2, hc2, hcm2, tl, hblk2⟩ := ownB_at HO2.out
    have hrd2 := rdB_blk hblk2
    have hbp := HB3.out.fr HF2.out (by simp)
    have hfr := HF3.out.trans' HF2.out (by simp)
    obtain ⟨all, hall⟩ : ∃ all, restB l ++ b = all := ⟨_, rfl⟩
    rw [hall] at hlen2 hrd2
    have HALL := Lib.hid hall; have HLEN2 := Lib.hid hlen2; have HRD2 := Lib.hid hrd2; have HBP := Lib.hid hbp; have HFR := Lib.hid hfr
    have hg2p : w.heap.size ≤ g2 := Nat.le_trans HSZ2.out hg2
    have hpg : p ≠ g2 := by have := HP2.out; omega
    have HG2 := Lib.hid hg2p; have HPG := Lib.hid hpg
    obtain ⟨M, hMe⟩ : ∃ M, m + n = M := ⟨_, rfl⟩
    rw [hMe] at hc2 HLEN2
    have hMs : (m : Int) + (n : Int) = (M : Int) := by omega
    have HME := Lib.hid hMe
    rw [hMe]
    clear hall hlen2 hrd2 hbp hfr hblk2 hg2 hg2p hpg hcm2 HO2 HO1 HF1 HF2 HBB HB31 HB3 HF3 HA2 c8 hMs hMe
    go_loopg [4] M (fun gg v wr => ∃ (k : Nat) (A' : Option Addr) (c' : Nat), 64 * k ≤ M ∧ gg = M - 64 * k ∧ v = .slice A' (M - 64 * k) c' ∧ M - 64 * k ≤ c' ∧ InB g2 A' ∧ Rd wr A' (all.drop (64 * k)) ∧
      Blk wr p 119 (stCells (turnN (turned l) all k) A m c (N + n)).toArray ∧ Fr [p] w wr)
    case atStart => exact ⟨0, _, _, by omega, by omega, rfl, by omega, (by intro ad hA; cases hA; exact ⟨rfl, rfl⟩), by simpa using HRD2.out, HBP.out, HFR.out⟩
    case round =>
      obtain ⟨k, A', c', hk, rfl, rfl, hc', hin, hrd, hblk, hfr⟩ := hrel
      obtain ⟨r, hr⟩ : ∃ r, M - 64 * k = r := ⟨_, rfl⟩
      rw [hr] at hc' ⊢
      have HR := Lib.hid hr; have HIN := Lib.hid hin; have HRDr := Lib.hid hrd; have HBr := Lib.hid hblk; have HFr := Lib.hid hfr
      clear hrd hblk hfr hin
      by_cases hlt : 64 ≤ r
      · clear hr
        go_wp2_with fail
        have h64c : (64 : Int) ≤ (c' : Int) := by omega
        obtain ⟨VK, hVK⟩ : ∃ x, turnN (turned l) all k = x := ⟨_, rfl⟩
        rw [hVK] at HBr
        obtain ⟨VN, hVN⟩ : ∃ x, turnF VK ((all.drop (64 * k)).take 64) = x := ⟨_, rfl⟩
        have h64r : (64 : Int) ≤ (r : Int) := by omega
        have hdl : (all.drop (64 * k)).length = r := by rw [List.length_drop, HLEN2.out, HR.out]
        have ht64 : ((all.drop (64 * k)).take 64).length = 64 := by rw [List.length_take, hdl]; omega
        have HCELL := Lib.hid (show ∀ j v, (u32s VK.l)[j]? = some v → wr.drew.cell? ⟨p, 0 + j, none⟩ = some v from fun j v hv => by
          have hj : j < 8 := by have := (List.getElem?_eq_some_iff.1 hv).1; simpa [V8.l] using this
          rw [HBr.out.drew.cell, List.getElem?_toArray, Nat.zero_add]
          unfold stCells
          rw [List.getElem?_append_left (by simpa [V8.l] using hj)]
          exact hv)
        have hturn := turn_calls wr.drew VK A' c' _ ht64 (HRDr.out.drew.take 64) (by omega)
        rw [hVN] at hturn
        have HTURN := Lib.hid hturn
        have HVN := Lib.hid hVN; have HVK := Lib.hid hVK
        have HDL := Lib.hid hdl
        clear hdl ht64 hturn hVN hVK
        refine seq_begin (by kernel_rfl) ?_
        refine seq_take (i := 0) (v := (.pointer (some ⟨p, 0, none⟩))) (d := 35) rfl (by kernel_rfl) (by kernel_rfl) (by kernel_rfl) (by kernel_rfl) (by kernel_rfl) (fun _ _ _ h => h) ?_ ?_
        · intro w9; kernel_rfl
        try simp only [Act.put, List.setIfInBounds_toArray, List.set_cons_zero, List.set_cons_succ]
        refine seq_take (i := 1) (v := (.pointer (some ⟨p, 0, none⟩))) (d := 36) rfl (by kernel_rfl) (by kernel_rfl) (by kernel_rfl) (by kernel_rfl) (by kernel_rfl) (fun _ _ _ h => h) ?_ ?_
        · intro w9; kernel_rfl
        try simp only [Act.put, List.setIfInBounds_toArray, List.set_cons_zero, List.set_cons_succ]
        refine seq_take (i := 2) (v := (.pointer (some ⟨p, 0, none⟩))) (d := 37) rfl (by kernel_rfl) (by kernel_rfl) (by kernel_rfl) (by kernel_rfl) (by kernel_rfl) (fun _ _ _ h => h) ?_ ?_
        · intro w9; kernel_rfl
        try simp only [Act.put, List.setIfInBounds_toArray, List.set_cons_zero, List.set_cons_succ]
        refine seq_take (i := 3) (v := (.pointer (some ⟨p, 0, none⟩))) (d := 38) rfl (by kernel_rfl) (by kernel_rfl) (by kernel_rfl) (by kernel_rfl) (by kernel_rfl) (fun _ _ _ h => h) ?_ ?_
        · intro w9; kernel_rfl
        try simp only [Act.put, List.setIfInBounds_toArray, List.set_cons_zero, List.set_cons_succ]
        refine seq_take (i := 5) (v := (.slice A' r c')) (d := 40) rfl (by kernel_rfl) (by kernel_rfl) (by kernel_rfl) (by kernel_rfl) (by kernel_rfl) (fun _ _ _ h => h) ?_ ?_
        · intro w9; kernel_rfl
        try simp only [Act.put, List.setIfInBounds_toArray, List.set_cons_zero, List.set_cons_succ]
        refine seq_take (i := 6) (v := (.slice A' 64 c')) (d := 41) rfl (by kernel_rfl) (by kernel_rfl) (by kernel_rfl) (by kernel_rfl) (by kernel_rfl) (fun _ _ _ h => h) ?_ ?_
        · intro w9; go_simp
        try simp only [Act.put, List.setIfInBounds_toArray, List.set_cons_zero, List.set_cons_succ]
        refine seq_only (i := 4) rfl (by kernel_rfl) (by kernel_rfl) ?_
        have hr4 := fun (a : Act) (o : Oper) (K : Act → World → Prop) (Q : Exit → Act → World → Prop) => @sq_load Try.prog Q a o wr.drew K 116 (.tmp 38) p 0 (u32s VK.l) (.array 8 108) 39
        refine hr4 _ _ _ _ ?_ ?_ ?_ ?_ ?_ ?_ ?_ ?_
        · kernel_rfl
        · kernel_rfl
        · kernel_rfl
        · exact HCELL.out
        · exact Try.underlying116
        · rfl
        · exact arr8_size
        clear hr4
        try simp only [Act.put, List.setIfInBounds_toArray, List.set_cons_zero, List.set_cons_succ]
        refine seq_only (i := 7) rfl (by kernel_rfl) (by kernel_rfl) ?_
        have hr7 := fun (a : Act) (o : Oper) (K : Act → World → Prop) (Q : Exit → Act → World → Prop) => @sq_call Try.prog Q a o wr.drew K (Agg (.agg (u32s VN.l).toArray) wr.drew) 77 #[.agg (u32s VK.l).toArray, .slice A' 64 c'] 42
        refine hr7 _ _ _ _ ?_ ?_ ?_ ?_
        · kernel_rfl
        · kernel_rfl
        · exact HTURN.out
        rintro e w9 ⟨rfl, f9⟩
        refine ⟨_, rfl, ?_⟩
        have F9 := Lib.hid f9
        have HB9 := Lib.hid (HBr.out.drew.fr f9 (by simp))
        clear hr7 f9
        try simp only [Act.put, List.setIfInBounds_toArray, List.set_cons_zero, List.set_cons_succ]
        refine seq_take (i := 8) (v := (.pointer (some ⟨p, 0, none⟩))) (d := 43) rfl (by kernel_rfl) (by kernel_rfl) (by kernel_rfl) (by kernel_rfl) (by kernel_rfl) (fun _ _ _ h => h) ?_ ?_
        · intro w9; kernel_rfl
        try simp only [Act.put, List.setIfInBounds_toArray, List.set_cons_zero, List.set_cons_succ]
        refine seq_take (i := 9) (v := (.pointer (some ⟨p, 0, none⟩))) (d := 44) rfl (by kernel_rfl) (by kernel_rfl) (by kernel_rfl) (by kernel_rfl) (by kernel_rfl) (fun _ _ _ h => h) ?_ ?_
        · intro w9; kernel_rfl
        try simp only [Act.put, List.setIfInBounds_toArray, List.set_cons_zero, List.set_cons_succ]
        refine seq_only (i := 10) rfl (by kernel_rfl) (by kernel_rfl) ?_
        have hr10 := fun (a : Act) (o : Oper) (K : Act → World → Prop) (Q : Exit → Act → World → Prop) => @sq_store Try.prog Q a o w9 K 116 (.tmp 44) (.tmp 42) p 0 (u32s VN.l) (stCells VK A m c (N + n)) 119
        refine hr10 _ _ _ _ ?_ ?_ ?_ ?_ ?_ ?_ ?_ ?_ ?_
        · kernel_rfl
        · kernel_rfl
        · kernel_rfl
        · kernel_rfl
        · exact HB9.out
        · rw [stCells_length]; simp [V8.l]
        · exact u32s_one _
        · exact arr8_size
        clear hr10
        try simp only [Act.put, List.setIfInBounds_toArray, List.set_cons_zero, List.set_cons_succ]
        refine wpAnyH_done (by kernel_rfl) ?_ _
        go_upto_region 6 with fail
        rw [set07]
        have hbn9 := HB9.out.setRow_ (stCells VN A m c (N + n)).toArray
        have hfn9 := (((HFr.out.drew).trans' F9.out (by simp)).setRow (g := p) (.inl (by simp)) (stCells VN A m c (N + n)).toArray)
        have hfr9 := ((((Fr.refl [p] wr).drew).trans' F9.out (by simp)).setRow (g := p) (.inl (by simp)) (stCells VN A m c (N + n)).toArray)
        have hrd9 := (HRDr.out.fr hfr9 (fun b off hb => by have := (HIN.out _ hb).1; simp at this; have := HPG.out; simp; omega))
        obtain ⟨WN, hWN⟩ : ∃ WN, w9.setRow p (stCells VN A m c (N + n)).toArray = WN := ⟨_, rfl⟩
        rw [hWN] at hbn9 hfn9 hrd9 ⊢
        have HBN := Lib.hid hbn9; have HFN := Lib.hid hfn9; have HRN := Lib.hid hrd9
        clear hbn9 hfn9 hfr9 hrd9 hWN HB9 F9 HTURN HCELL
        by_cases hcc : c' = 64
        · subst hcc
          obtain rfl : r = 64 := by omega
          go_wp2_with fail
          go_roundg (M - 64 * (k + 1))
          case measure => have := HR.out; omega
          case rel =>
            have hr64 := HR.out
            have hd9 := rdDrop HRN.out 64 64 (by rw [HDL.out]; omega) (by rw [HDL.out]; omega)
            rw [if_pos rfl, List.drop_drop] at hd9
            refine ⟨k + 1, A', 0, by omega, rfl, by rw [show M - 64 * (k + 1) = 0 by omega], by omega, HIN.out, hd9, ?_, HFN.out⟩
            rw [turnN, HVK.out, HVN.out]
            exact HBN.out
        · have hccI : (64 : Int) < (c' : Int) := by omega
          go_wp2_with fail
          go_roundg (M - 64 * (k + 1))
          case measure => have := HR.out; omega
          case rel =>
            have hr64 := HR.out
            have hd9 := rdDrop HRN.out 64 c' (by rw [HDL.out]; omega) (by rw [HDL.out]; omega)
            rw [if_neg hcc, List.drop_drop] at hd9
            have hin := HIN.out.map 64 c'
            rw [if_neg hcc] at hin
            refine ⟨k + 1, _, c' - 64, by omega, rfl, by rw [show M - 64 * (k + 1) = r - 64 by omega]; rfl, by omega, hin, hd9, ?_, HFN.out⟩
            rw [turnN, HVK.out, HVN.out]
            exact HBN.out
      · have c8 : wr.cell? ⟨p, 8, none⟩ = some (.slice A m c) := by rw [HBr.out.cell]; simp [stCells, V8.l, u32s]
        have hz := HBr.out.frozen
        go_wp2_with fail
        go_end0
        have hrr := HR.out
        have hk64 : all.length / 64 = k := by rw [HLEN2.out]; omega
        have hLl : (l ++ b).length = N + n := by rw [List.length_append, HN.out, HNB.out]
        have hmod : (N + n) % 64 = r := by have := HME.out; have := HM.out; rw [HN.out] at this; omega
        have hset := HBr.out.set_ 8 (.slice A' r c')
        rw [set8] at hset
        have hfs := HFr.out.setCell (p := ⟨p, 8, none⟩) (.inl (by simp)) (.slice A' r c')
        have hfs1 := (Fr.refl [p] wr).setCell (p := ⟨p, 8, none⟩) (.inl (by simp)) (.slice A' r c')
        refine ⟨rfl, A', ⟨⟨turned (l ++ b), c', ?_, by rw [hLl, hmod]; exact hc', fun _ => rfl⟩, ?_, by rw [hLl]; exact hbd⟩, fun bb off hb => ?_, hfs⟩
        · rw [hLl, hmod, turned_append, HALL.out, hk64]
          exact hset
        · rw [restB_append, HALL.out, hk64]
          exact HRDr.out.fr hfs1 (fun b off hb => by have := (HIN.out _ hb).1; simp at this; have := HPG.out; simp; omega)
        · have := (HIN.out _ hb).1; simp at this; have := HG2.out; omega
end Go.Proofs.Ytmmjihkcofgmmaa

/- SHA-256: a sum is told: Done. -/
namespace Go.Proofs.Ytmmjihkcofgmmaa
open Go.RowKit
set_option linter.unusedVariables false

def digB (V : V8) : List UInt8 := (List.range 32).map fun i => UInt8.ofNat ((V.l.getD (i / 4) 0).toNat / 256 ^ (3 - i % 4))
theorem digB_length (V : V8) : (digB V).length = 32 := by simp [digB]
/-- how many zeros lie between -/
def padK (n : Nat) : Nat := (119 - n % 64) % 64
def tailB (n : Nat) : List UInt8 := 128 :: (List.replicate (padK n) 0 ++ eightB (8 * n))
def padB (l : List UInt8) : List UInt8 := l ++ tailB l.length
def shaB (l : List UInt8) : List UInt8 := digB (turned (padB l))
theorem shaB_length (l : List UInt8) : (shaB l).length = 32 := digB_length _

theorem arr32_zero : (Try.prog.info? 41).map (·.zero) = some (some (.agg (zs 32).toArray)) := by kernel_rfl
theorem arr32_size : (Try.prog.info? 41).map (·.size) = some 32 := by kernel_rfl
theorem v8_size (V : V8) : (Try.prog.info? 116).map (·.size) = some (u32s V.l).length := arr8_size
theorem eight_any (w : World) (x : Int) (n : Nat) (hx : x = (n : Int)) (hn : n < 18446744073709551616) : Calls Try.prog 74 #[.int .u64 x] w (OwnB w (eightB n)) := by
  subst hx; exact eight_calls w n hn
theorem alloc_at {P : Program} {ops : Array Oper} {rest : List Oper} {o : Oper} {a : Act} {w : World} {Q : Exit → Act → World → Prop} (hgd : o.guard = none) (ty : TypeId) (ho : o.op = .alloc ty) (Z : Array Value) (hz : (P.info? ty).map (·.zero) = some (some (.agg Z)))
    (H : Nat) (hH : w.heap.size = H) (h : wpList P ops Q rest (a.put o.dst (.pointer (some ⟨H, 0, none⟩))) (w.alloc (.cells Z ty))) : wpList P ops Q (o :: rest) a w := by
  subst hH
  exact wpList_alloc_agg hgd ty ho Z hz h
theorem fit8 (V : V8) : 0 + (u32s V.l).length ≤ z8.length := by simp [V8.l, z8]
theorem fitv (V V' : V8) : 0 + (u32s V.l).length ≤ (u32s V'.l).length := by simp [V8.l]
theorem splice_v8 (V V' : V8) : splice (u32s V.l) 0 (u32s V'.l) = u32s V'.l := by simp [splice, V8.l]
theorem splice_z8 (V : V8) : splice z8 0 (u32s V.l) = u32s V.l := by simp [splice, V8.l, z8]
theorem rd_128 (w : World) (t : TypeId) : Rd (w.alloc (.cells #[.int .u8 128] t)) (some ⟨w.heap.size, 0, none⟩) [128] := rd_one w 128 t
theorem rd_000 (w : World) (t : TypeId) : Rd (w.alloc (.cells #[.int .u8 0] t)) (some ⟨w.heap.size, 0, none⟩) [0] := rd_one w 0 t
theorem stCells_9 (V : V8) (A : Option Addr) (m c n : Nat) : (stCells V A m c n)[9]? = some (.int .u64 (n : Int)) := by simp [stCells, V8.l, u32s]
theorem stCells_8 (V : V8) (A : Option Addr) (m c n : Nat) : (stCells V A m c n)[8]? = some (.slice A m c) := by simp [stCells, V8.l, u32s]
theorem stCells_h (V : V8) (A : Option Addr) (m c n : Nat) {j : Nat} {v : Value} (hv : (u32s V.l)[j]? = some v) : (stCells V A m c n)[j]? = some v := by
  have hj : j < 8 := by have := (List.getElem?_eq_some_iff.1 hv).1; simpa [V8.l] using this
  unfold stCells
  rw [List.getElem?_append_left (by simpa [V8.l] using hj)]
  exact hv
theorem eights_split (m K : Nat) (r : List UInt8) (hr : r.length = m) (k : Nat) : (r ++ 128 :: List.replicate k 0) ++ [0] = r ++ 128 :: List.replicate (k + 1) (0 : UInt8) := by
  rw [List.replicate_succ']; simp
theorem padK_test (m k : Nat) (hm : m < 64) (hk : k ≤ padK m) : (m + 1 + k) % 64 = 56 ↔ k = padK m := by
  unfold padK at *
  omega
theorem padK_mod (n : Nat) : padK n = padK (n % 64) := by unfold padK; rw [Nat.mod_mod]
theorem padK_lt (n : Nat) : padK n < 64 := by unfold padK; omega
theorem all_mod (m : Nat) (hm : m < 64) : (m + 1 + padK m + 8) % 64 = 0 := by unfold padK; omega
/-- the first 4 i bytes of the digits -/
def digP (V : V8) (i : Nat) : List UInt8 := (digB V).take (4 * i) ++ List.replicate (32 - 4 * i) 0
theorem digP_zero (V : V8) : digP V 0 = List.replicate 32 0 := by simp [digP]
theorem digP_all (V : V8) : digP V 8 = digB V := by unfold digP; rw [List.take_of_length_le (by simp [digB])]; simp
theorem digP_length (V : V8) (i : Nat) (hi : i ≤ 8) : (digP V i).length = 32 := by simp [digP, digB]; omega
def byteAt (x : UInt32) (j : Nat) : UInt8 := UInt8.ofNat (x.toNat / 256 ^ (3 - j))
theorem digP_step (V : V8) (i : Nat) (hi : i < 8) (x : UInt32) (hx : V.l[i]? = some x) :
    ((((digP V i).set (4 * i) (byteAt x 0)).set (4 * i + 1) (byteAt x 1)).set (4 * i + 2) (byteAt x 2)).set (4 * i + 3) (byteAt x 3) = digP V (i + 1) := by
  have hg : ∀ j, j < 4 → (digB V)[4 * i + j]? = some (byteAt x j) := fun j hj => by
    have h1 : (4 * i + j) / 4 = i := by omega
    have h2 : (4 * i + j) % 4 = j := by omega
    simp only [digB, List.getElem?_map, List.getElem?_range (show 4 * i + j < 32 by omega), Option.map_some, h1, h2, List.getD, hx, Option.getD_some]
    rfl
  have hd := digB_length V
  apply List.ext_getElem?
  intro j
  have hl : ∀ k, k ≤ 8 → (digP V k).length = 32 := digP_length V
  have hq : ∀ k j, k ≤ 8 → (digP V k)[j]? = if j < 4 * k then (digB V)[j]? else if j < 32 then some 0 else none := fun k j hk => by
    unfold digP
    by_cases h1 : j < 4 * k
    · rw [if_pos h1, List.getElem?_append_left (by rw [List.length_take, hd]; omega), List.getElem?_take, if_pos h1]
    · rw [if_neg h1, List.getElem?_append_right (by rw [List.length_take, hd]; omega), List.getElem?_replicate, List.length_take, hd]
      by_cases h2 : j < 32
      · rw [if_pos (by omega), if_pos h2]
      · rw [if_neg (by omega), if_neg h2]
  rw [hq (i + 1) j (by omega)]
  simp only [List.getElem?_set, List.length_set, hl i (by omega), hq i j (by omega)]
  rcases (show j < 4 * i ∨ j = 4 * i ∨ j = 4 * i + 1 ∨ j = 4 * i + 2 ∨ j = 4 * i + 3 ∨ 4 * i + 4 ≤ j by omega) with h | h | h | h | h | h
  · rw [if_neg (by omega), if_neg (by omega), if_neg (by omega), if_neg (by omega), if_pos h, if_pos (by omega)]
  · subst h
    rw [if_neg (by omega), if_neg (by omega), if_neg (by omega), if_pos rfl, if_pos (by omega), if_pos (by omega)]
    exact (hg 0 (by omega)).symm
  · subst h
    rw [if_neg (by omega), if_neg (by omega), if_pos rfl, if_pos (by omega), if_pos (by omega)]
    exact (hg 1 (by omega)).symm
  · subst h
    rw [if_neg (by omega), if_pos rfl, if_pos (by omega), if_pos (by omega)]
    exact (hg 2 (by omega)).symm
  · subst h
    rw [if_pos rfl, if_pos (by omega), if_pos (by omega)]
    exact (hg 3 (by omega)).symm
  · rw [if_neg (by omega), if_neg (by omega), if_neg (by omega), if_neg (by omega), if_neg (by omega), if_neg (show ¬ j < 4 * (i + 1) by omega)]
theorem byte_val (x : UInt32) (j : Nat) : (x.toNat : Int) / (256 ^ (3 - j) : Nat) % 256 = ((byteAt x j).toNat : Int) := by
  unfold byteAt
  rw [UInt8.toNat_ofNat']
  omega
theorem byte0 (x : UInt32) : (x.toNat : Int) / 16777216 % 256 = ((byteAt x 0).toNat : Int) := byte_val x 0
theorem byte1 (x : UInt32) : (x.toNat : Int) / 65536 % 256 = ((byteAt x 1).toNat : Int) := byte_val x 1
theorem byte2 (x : UInt32) : (x.toNat : Int) / 256 % 256 = ((byteAt x 2).toNat : Int) := byte_val x 2
theorem byte3 (x : UInt32) : (x.toNat : Int) % 256 = ((byteAt x 3).toNat : Int) := by have := byte_val x 3; simpa using this
theorem idx_v8 (V : V8) (i : Nat) (hi : i < 8) : ∃ x, V.l[i]? = some x ∧ ∀ w : World, (Instr.index 116 (.agg (u32s V.l).toArray) (.int .i64 (i : Int))).run Try.prog w = .ok (.int .u32 (x.toNat : Int)) w := by
  rcases (show i = 0 ∨ i = 1 ∨ i = 2 ∨ i = 3 ∨ i = 4 ∨ i = 5 ∨ i = 6 ∨ i = 7 by omega) with rfl | rfl | rfl | rfl | rfl | rfl | rfl | rfl <;> exact ⟨_, rfl, fun _ => by kernel_rfl⟩
theorem size_u8 : (Try.prog.info? 5).map (·.size) = some 1 := by kernel_rfl
theorem u8s_set (l : List UInt8) (k : Nat) (y : UInt8) : (u8s l).toArray.setIfInBounds k (.int .u8 (y.toNat : Int)) = (u8s (l.set k y)).toArray := by simp [u8s, List.map_set]
theorem splice_32 (l : List UInt8) (h : l.length = 32) : splice (zs 32) 0 (u8s l) = u8s l := by simp [splice, h, zs_length]
theorem dig_size (l : List UInt8) (h : l.length = 32) : (Try.prog.info? 41).map (·.size) = some (u8s l).length := by rw [u8s_length, h]; exact arr32_size
theorem ownB_rd {w : World} {base n c : Nat} {A : Option Addr} {l : List UInt8} (h : w.ownsRow base 5 1 (.slice A n c) n (u8s l)) : Rd w A l := by
  obtain ⟨A', c', e', _, _, hrd, _⟩ := own_rd h
  injection e' with e1 _ _
  subst e1
  exact hrd
theorem all_eq (l : List UInt8) (N m K : Nat) (hN : l.length = N) (hm : l.length % 64 = m) (hK : padK m = K) : (restB l ++ 128 :: List.replicate K 0) ++ eightB (8 * N) = restB l ++ tailB l.length := by
  unfold tailB
  rw [padK_mod, hm, hK, hN]
  simp
set_option maxHeartbeats 8000000 in
set_option maxRecDepth 100000 in
theorem done_calls (w : World) (p : Nat) (l : List UInt8) (A : Option Addr) (h : StIs w p l A) :
    Calls Try.prog 73 #[.pointer (some ⟨p, 0, none⟩)] w (Agg (.agg (u8s (shaB l)).toArray) w) := by
  have H := Lib.hid h
  obtain ⟨⟨V, c, hblk, hc, hV⟩, hrd, hlen⟩ := h
  obtain ⟨N, hN⟩ : ∃ N, l.length = N := ⟨_, rfl⟩
  obtain ⟨m, hm⟩ : ∃ m, l.length % 64 = m := ⟨_, rfl⟩
  rw [hm] at hblk hc
  rw [hN] at hblk hlen
  have hph : p < w.heap.size := hblk.lt
  have HB := Lib.hid hblk; have HV := Lib.hid hV; have HRD := Lib.hid hrd; have HM := Lib.hid hm; have HN := Lib.hid hN; have HPH := Lib.hid hph
  have hz0 : zs 32 = zs 32 := rfl
  have HA0 := Lib.hid (Blk.new w 41 (zs 32).toArray)
  have HB1 := Lib.hid (hblk.alloc (.cells (zs 32).toArray 41))
  have HBX := Lib.hid (Blk.new (w.alloc (.cells (zs 32).toArray 41)) 116 z8.toArray)
  have HC := Lib.hid (show ∀ j v, (u32s V.l)[j]? = some v → (w.alloc (.cells (zs 32).toArray 41)).cell? ⟨p, 0 + j, none⟩ = some v from fun j v hv => by
    rw [HB1.out.cell, List.getElem?_toArray, Nat.zero_add]; exact stCells_h _ _ _ _ _ hv)
  have e1 : (w.alloc (.cells (zs 32).toArray 41)).heap.size = w.heap.size + 1 := by simp
  rw [e1] at HBX
  have E1 := Lib.hid e1
  clear e1
  have hbN : (N : Int) ≤ 100000000 := by omega
  clear hblk hV hrd hm hN hz0 hph
  go_enter Try.func73, Try.ntmps73
  go_upto_region 2 with (first
    | (refine wpList_alloc_agg rfl 41 rfl (zs 32).toArray arr32_zero ?_)
    | (refine alloc_at rfl 116 rfl z8.toArray arr8_zero (w.heap.size + 1) E1.out ?_)
    | (refine wpList_load_agg rfl 116 (.tmp 10) rfl p 0 rfl (u32s V.l) _ HC.out Try.underlying116 rfl (v8_size V) ?_)
    | (refine wpList_store_agg rfl 116 (.tmp 3) (.tmp 11) rfl (w.heap.size + 1) 0 rfl (u32s V.l) rfl z8 116 HBX.out (fit8 V) (u32s_one _) (v8_size V) ?_))
  have hb2 := HBX.out.setRow_ (splice z8 0 (u32s V.l)).toArray
  have hz2 : w.heap.size ≠ w.heap.size + 1 := by omega
  have ha2 := (HA0.out.alloc (.cells z8.toArray 116)).setRow_far hz2 (splice z8 0 (u32s V.l)).toArray
  have hp2 := (HB1.out.alloc (.cells z8.toArray 116)).setRow_far (show p ≠ w.heap.size + 1 by have := HPH.out; omega) (splice z8 0 (u32s V.l)).toArray
  have hf2 := (((Fr.refl [] w).alloc (.cells (zs 32).toArray 41)).alloc (.cells z8.toArray 116)).setRow (g := w.heap.size + 1) (.inr (by omega)) (splice z8 0 (u32s V.l)).toArray
  rw [splice_z8] at hb2 ha2 hp2 hf2 ⊢
  obtain ⟨Wa, hWa⟩ : ∃ Wa, (((w.alloc (.cells (zs 32).toArray 41)).alloc (.cells z8.toArray 116)).setRow (w.heap.size + 1) (u32s V.l).toArray) = Wa := ⟨_, rfl⟩
  rw [hWa] at hb2 ha2 hp2 hf2 ⊢
  have c9 : Wa.cell? ⟨p, 9, none⟩ = some (.int .u64 (N : Int)) := by rw [hp2.cell, List.getElem?_toArray, stCells_9]
  have K2 := Lib.hid hb2; have KA := Lib.hid ha2; have KP := Lib.hid hp2; have KF := Lib.hid hf2
  have HBEG := Lib.hid (begin_calls Wa)
  clear hb2 ha2 hp2 hf2 hWa hz2 HB HA0 HB1 HBX HC
  by_cases hl : l = []
  · have hN0 : ((N : Int) == 0) = true := by rw [← HN.out, hl]; rfl
    have ht : turned l = H0 := by rw [hl]; rfl
    have HT := Lib.hid ht
    clear hl ht
    go_upto_region 4 with (first
      | (go_at_call 76; (with_reducible refine HBEG.out.mono ?_); rintro e w1 ⟨rfl, f1⟩; have F1 := Lib.hid f1; have K3 := Lib.hid (K2.out.fr f1 (by simp)); have KA3 := Lib.hid (KA.out.fr f1 (by simp)); have KP3 := Lib.hid (KP.out.fr f1 (by simp)); clear f1 c9)
      | (refine wpList_store_agg rfl 116 (.tmp 3) (.tmp 17) rfl (w.heap.size + 1) 0 rfl (u32s H0.l) rfl (u32s V.l) 116 K3.out (fitv H0 V) (u32s_one _) (v8_size H0) ?_))
    simp only [Act.put]
    have hb2 := K3.out.setRow_ (splice (u32s V.l) 0 (u32s H0.l)).toArray
    have ha2 := KA3.out.setRow_far (show w.heap.size ≠ w.heap.size + 1 by omega) (splice (u32s V.l) 0 (u32s H0.l)).toArray
    have hp2 := KP3.out.setRow_far (show p ≠ w.heap.size + 1 by have := HPH.out; omega) (splice (u32s V.l) 0 (u32s H0.l)).toArray
    have hf2 := (KF.out.trans F1.out).setRow (g := w.heap.size + 1) (.inr (by omega)) (splice (u32s V.l) 0 (u32s H0.l)).toArray
    rw [splice_v8, ← HT.out] at hb2 ha2 hp2 hf2 ⊢
    obtain ⟨Wb, hWb⟩ : ∃ Wb, w1.setRow (w.heap.size + 1) (u32s (turned l).l).toArray = Wb := ⟨_, rfl⟩
    rw [hWb] at hb2 ha2 hp2 hf2 ⊢
    have hA2 : Rd Wb A (restB l) := HRD.out.fr hf2 (by simp)
    have hrl : (restB l).length = m := by rw [restB_length, HM.out]
    have hm64 : m < 64 := by rw [← HM.out]; omega
    have hpb : p < Wb.heap.size := hp2.lt
    have c8 : (Wb.alloc (.cells #[] 5)).cell? ⟨p, 8, none⟩ = some (.slice A m c) := cell_alloc (by rw [hp2.cell, List.getElem?_toArray, stCells_8]) _
    have Q2 := Lib.hid hb2; have QA := Lib.hid ha2; have QP := Lib.hid hp2; have QF := Lib.hid hf2; have HA2 := Lib.hid hA2; have HRL := Lib.hid hrl
    have hbm : m ≤ 1000000000 := by omega
    have hbm1 : m + 1 ≤ 1000000000 := by omega
    clear hb2 ha2 hp2 hf2 hWb hA2 hrl hN0 K2 KA KP KF HBEG hpb HRD
    go_upto_region 5 with (first
      | (at_builtin; refine copyU8 rfl (.tmp 18) (.tmp 22) rfl Wb _ rfl rfl rfl A m c (restB l) rfl HRL.out HA2.out hbm ?_; intro g1 c1 w3 ho1 hf1; have HO1 := Lib.hid (ho1.alloc (.cells #[.int .u8 128] 5)); have HF1 := Lib.hid (hf1.alloc (.cells #[.int .u8 128] 5)); have HG1 := Lib.hid (ownB_at ho1).2.1; clear ho1 hf1)
      | (at_builtin; refine growU8 rfl (.tmp 23) (.tmp 24) rfl Wb.heap.size _ m _ (restB l) rfl HO1.out _ 1 1 [128] rfl rfl (rd_128 w3 _) hbm1 HF1.out.size ?_; intro g2 c2 w4 ho2 hf2; have HO2 := Lib.hid ho2; have HF2 := Lib.hid (HF1.out.trans' hf2 (fun x hx => by simp at hx; subst hx; exact .inr HG1.out)); clear ho2 hf2))
    have HO3 := Lib.hid (show w4.ownsRow Wb.heap.size 5 1 (.slice (some ⟨g2, 0, none⟩) (m + 1 + 0) c2) (m + 1 + 0) (u8s (restB l ++ 128 :: List.replicate 0 0)) from HO2.out)
    clear HO1 HF1 HG1 HO2 c8
    obtain ⟨K, hK⟩ : ∃ K, padK m = K := ⟨_, rfl⟩
    have hK64 : K < 64 := hK ▸ padK_lt m
    have HK := Lib.hid hK
    clear hK
    go_loopg [4] K (fun gg v wr => ∃ (k g c' : Nat), k ≤ K ∧ gg = K - k ∧ v = .slice (some ⟨g, 0, none⟩) (m + 1 + k) c' ∧ wr.ownsRow Wb.heap.size 5 1 (.slice (some ⟨g, 0, none⟩) (m + 1 + k) c') (m + 1 + k) (u8s (restB l ++ 128 :: List.replicate k 0)) ∧ Fr [] Wb wr)
    case atStart => exact ⟨0, _, _, by omega, by omega, rfl, HO3.out, HF2.out⟩
    case round =>
      obtain ⟨k, g, c', hk, rfl, rfl, ho, hf⟩ := hrel
      have HO := Lib.hid ho; have HF := Lib.hid hf
      clear ho hf
      obtain ⟨M, hM⟩ : ∃ M, m + 1 + k = M := ⟨_, rfl⟩
      have HMM := Lib.hid hM
      have hM0 : (0 : Int) ≤ (M : Int) := by omega
      have hMb : (M : Int) ≤ 1000 := by omega
      have hMb1 : M + 1 ≤ 1000000000 := by omega
      have hte := padK_test m k hm64 (by rw [HK.out]; exact hk)
      rw [HK.out, hM] at hte
      rw [hM]
      by_cases hlt : k = K
      · have htI : ((M : Int) % 64 == 56) = true := by rw [beq_iff_eq]; have := hte.2 hlt; omega
        have htJ : ((M : Int) % 64 != 56) = false := by rw [bne_eq_false_iff_eq]; have := hte.2 hlt; omega
        subst hlt
        clear hM hte
        have hf9 := HF.out
        have c9 : wr.cell? ⟨p, 9, none⟩ = some (.int .u64 (N : Int)) := by rw [(QP.out.fr hf9 (by simp)).cell, List.getElem?_toArray, stCells_9]
        have HEI := Lib.hid (eight_any wr (8 * (N : Int)) (8 * N) (by omega) (by omega))
        have hbM8 : M + 8 ≤ 1000000000 := by omega
        have HE8 := Lib.hid (eightB_length (8 * N))
        have HO4 := Lib.hid HO.out
        have hHS := hf9.size
        have HHS := Lib.hid hHS
        rw [HMM.out] at HO4
        clear hf9 hHS
        go_upto_region 8 with (first
          | (go_at_call 74; (with_reducible refine HEI.out.mono ?_); rintro e w5 ⟨A5, c5, rfl, ho5, hf5⟩; rw [HE8.out] at ho5 ⊢; have HO5 := Lib.hid ho5; have HF5 := Lib.hid hf5; have HO6 := Lib.hid (own_fr HO4.out hf5 (by simp)); clear ho5 hf5 c9)
          | (at_builtin; refine growU8 rfl (.tmp 33) (.tmp 39) rfl Wb.heap.size _ M _ (restB l ++ 128 :: List.replicate k 0) rfl HO6.out A5 8 c5 (eightB (8 * N)) rfl HE8.out (ownB_rd HO5.out) hbM8 (Nat.le_trans HHS.out HF5.out.size) ?_; intro g7 c7 w7 ho7 hf7; have HO7 := Lib.hid ho7; have HF7 := Lib.hid ((HF.out.trans HF5.out).trans' hf7 (fun x hx => by simp at hx; subst hx; exact .inr (ownB_at HO6.out).2.1)); clear ho7 hf7))
        obtain ⟨hlen7, hg7, hc7, hcm7, tl7, hblk7⟩ := ownB_at HO7.out
        have hrd7 := rdB_blk hblk7
        have haE := all_eq l N m k HN.out HM.out HK.out
        rw [haE] at hlen7 hrd7
        obtain ⟨all, hall⟩ : ∃ all, restB l ++ tailB l.length = all := ⟨_, rfl⟩
        rw [hall] at hlen7 hrd7
        obtain ⟨T, hT⟩ : ∃ T, M + 8 = T := ⟨_, rfl⟩
        rw [hT] at hlen7 hc7 ⊢
        have hT64 : T % 64 = 0 := by
          have h1 := all_mod m hm64
          have h2 := HK.out
          have h3 := HMM.out
          omega
        have HALL := Lib.hid hall; have HLEN := Lib.hid hlen7; have HT := Lib.hid hT; have HT64 := Lib.hid hT64
        have G7 := Lib.hid hg7
        have hq7 := HF7.out
        have R2 := Lib.hid (Q2.out.fr hq7 (by simp)); have RA := Lib.hid (QA.out.fr hq7 (by simp)); have RF := Lib.hid (QF.out.trans hq7); have RD := Lib.hid hrd7
        have hgne : g7 ≠ w.heap.size + 1 := by have := Q2.out.lt; omega
        have HGN := Lib.hid hgne
        clear hblk7 hrd7 haE hall hlen7 hT hT64 hg7 hcm7 hq7 hgne HO7 HO6 HO5 HO4 HF7 HF5 HEI HO HF htI htJ
        obtain ⟨wo, rfl⟩ : ∃ wo : World, wo = wr := ⟨_, rfl⟩
        go_loopg [4] T (fun gg v wr => ∃ (k : Nat) (A' : Option Addr) (c' : Nat), 64 * k ≤ T ∧ gg = T - 64 * k ∧ v = .slice A' (T - 64 * k) c' ∧ T - 64 * k ≤ c' ∧ InB g7 A' ∧ Rd wr A' (all.drop (64 * k)) ∧
          Blk wr (w.heap.size + 1) 116 (u32s (turnN (turned l) all k).l).toArray ∧ Blk wr w.heap.size 41 (zs 32).toArray ∧ Fr [] w wr)
        case atStart => exact ⟨0, _, _, by omega, by omega, rfl, by omega, (by intro ad hA; cases hA; exact ⟨rfl, rfl⟩), by simpa using RD.out, R2.out, RA.out, RF.out⟩
        case round =>
          obtain ⟨k, A', c2, hk, rfl, rfl, hc', hin, hrd, hblk, hblA, hfr⟩ := hrel
          obtain ⟨r, hr⟩ : ∃ r, T - 64 * k = r := ⟨_, rfl⟩
          rw [hr] at hc' ⊢
          have HR := Lib.hid hr; have HIN := Lib.hid hin; have HRDr := Lib.hid hrd; have HBr := Lib.hid hblk; have HBA := Lib.hid hblA; have HFr := Lib.hid hfr
          clear hrd hblk hfr hin hblA
          by_cases hlt : 0 < r
          · have hr64 : 64 ≤ r := by have := HT64.out; omega
            clear hr
            have h64c : (64 : Int) ≤ (c2 : Int) := by omega
            have h64r : (64 : Int) ≤ (r : Int) := by omega
            have hdl : (all.drop (64 * k)).length = r := by rw [List.length_drop, HLEN.out, HR.out]
            have ht64 : ((all.drop (64 * k)).take 64).length = 64 := by rw [List.length_take, hdl]; omega
            obtain ⟨VK, hVK⟩ : ∃ x, turnN (turned l) all k = x := ⟨_, rfl⟩
            rw [hVK] at HBr
            obtain ⟨VN, hVN⟩ : ∃ x, turnF VK ((all.drop (64 * k)).take 64) = x := ⟨_, rfl⟩
            have HCELL := Lib.hid (show ∀ j v, (u32s VK.l)[j]? = some v → wr.drew.cell? ⟨w.heap.size + 1, 0 + j, none⟩ = some v from fun j v hv => by
              rw [HBr.out.drew.cell, List.getElem?_toArray, Nat.zero_add]; exact hv)
            have hturn := turn_calls wr.drew VK A' c2 _ ht64 (HRDr.out.drew.take 64) (by omega)
            rw [hVN] at hturn
            have HTURN := Lib.hid hturn
            have HVN := Lib.hid hVN; have HVK := Lib.hid hVK
            have HDL := Lib.hid hdl
            clear hdl ht64 hturn hVN hVK
            go_wp2_with fail
            refine seq_begin (by kernel_rfl) ?_
            refine seq_take (i := 1) (v := (.slice A' r c2)) (d := 47) rfl (by kernel_rfl) (by kernel_rfl) (by kernel_rfl) (by kernel_rfl) (by kernel_rfl) (fun _ _ _ h => h) ?_ ?_
            · intro w9; kernel_rfl
            try simp only [Act.put, List.setIfInBounds_toArray, List.set_cons_zero, List.set_cons_succ]
            refine seq_take (i := 2) (v := (.slice A' 64 c2)) (d := 48) rfl (by kernel_rfl) (by kernel_rfl) (by kernel_rfl) (by kernel_rfl) (by kernel_rfl) (fun _ _ _ h => h) ?_ ?_
            · intro w9; go_simp
            try simp only [Act.put, List.setIfInBounds_toArray, List.set_cons_zero, List.set_cons_succ]
            refine seq_only (i := 0) rfl (by kernel_rfl) (by kernel_rfl) ?_
            have hr4 := fun (a : Act) (o : Oper) (K : Act → World → Prop) (Q : Exit → Act → World → Prop) => @sq_load Try.prog Q a o wr.drew K 116 (.tmp 3) (w.heap.size + 1) 0 (u32s VK.l) (.array 8 108) 46
            refine hr4 _ _ _ _ ?_ ?_ ?_ ?_ ?_ ?_ ?_ ?_
            · kernel_rfl
            · kernel_rfl
            · kernel_rfl
            · exact HCELL.out
            · exact Try.underlying116
            · rfl
            · exact v8_size VK
            clear hr4
            try simp only [Act.put, List.setIfInBounds_toArray, List.set_cons_zero, List.set_cons_succ]
            refine seq_only (i := 3) rfl (by kernel_rfl) (by kernel_rfl) ?_
            have hr7 := fun (a : Act) (o : Oper) (K : Act → World → Prop) (Q : Exit → Act → World → Prop) => @sq_call Try.prog Q a o wr.drew K (Agg (.agg (u32s VN.l).toArray) wr.drew) 77 #[.agg (u32s VK.l).toArray, .slice A' 64 c2] 49
            refine hr7 _ _ _ _ ?_ ?_ ?_ ?_
            · kernel_rfl
            · kernel_rfl
            · exact HTURN.out
            rintro e w9 ⟨rfl, f9⟩
            refine ⟨_, rfl, ?_⟩
            have F9 := Lib.hid f9
            have HB9 := Lib.hid (HBr.out.drew.fr f9 (by simp))
            clear hr7 f9
            try simp only [Act.put, List.setIfInBounds_toArray, List.set_cons_zero, List.set_cons_succ]
            refine seq_only (i := 4) rfl (by kernel_rfl) (by kernel_rfl) ?_
            have hr10 := fun (a : Act) (o : Oper) (K : Act → World → Prop) (Q : Exit → Act → World → Prop) => @sq_store Try.prog Q a o w9 K 116 (.tmp 3) (.tmp 49) (w.heap.size + 1) 0 (u32s VN.l) (u32s VK.l) 116
            refine hr10 _ _ _ _ ?_ ?_ ?_ ?_ ?_ ?_ ?_ ?_ ?_
            · kernel_rfl
            · kernel_rfl
            · kernel_rfl
            · kernel_rfl
            · exact HB9.out
            · exact fitv VN VK
            · exact u32s_one _
            · exact v8_size VN
            clear hr10
            try simp only [Act.put, List.setIfInBounds_toArray, List.set_cons_zero, List.set_cons_succ]
            refine wpAnyH_done (by kernel_rfl) ?_ _
            go_upto_region 9 with fail
            rw [splice_v8]
            have hbn9 := HB9.out.setRow_ (u32s VN.l).toArray
            have han9 := ((HBA.out.drew).fr F9.out (by simp)).setRow_far (show w.heap.size ≠ w.heap.size + 1 by omega) (u32s VN.l).toArray
            have hfn9 := (HFr.out.drew.trans F9.out).setRow (g := w.heap.size + 1) (.inr (by omega)) (u32s VN.l).toArray
            have hfr9 := (((Fr.refl [w.heap.size + 1] wr).drew).trans' F9.out (by simp)).setRow (g := w.heap.size + 1) (.inl (by simp)) (u32s VN.l).toArray
            have hrd9 := HRDr.out.fr hfr9 (fun b off hb => by have := (HIN.out _ hb).1; simp at this; have := HGN.out; simp; omega)
            obtain ⟨WN, hWN⟩ : ∃ WN, w9.setRow (w.heap.size + 1) (u32s VN.l).toArray = WN := ⟨_, rfl⟩
            rw [hWN] at hbn9 han9 hfn9 hrd9 ⊢
            have HBN := Lib.hid hbn9; have HAN := Lib.hid han9; have HFN := Lib.hid hfn9; have HRN := Lib.hid hrd9
            clear hbn9 han9 hfn9 hfr9 hrd9 hWN HB9 F9 HTURN HCELL
            by_cases hcc : c2 = 64
            · subst hcc
              obtain rfl : r = 64 := by omega
              go_wp2_with fail
              go_roundg (T - 64 * (k + 1))
              case measure => have := HR.out; omega
              case rel =>
                have hr64 := HR.out
                have hd9 := rdDrop HRN.out 64 64 (by rw [HDL.out]; omega) (by rw [HDL.out]; omega)
                rw [if_pos rfl, List.drop_drop] at hd9
                refine ⟨k + 1, A', 0, by omega, rfl, by rw [show T - 64 * (k + 1) = 0 by omega], by omega, HIN.out, hd9, ?_, HAN.out, HFN.out⟩
                rw [turnN, HVK.out, HVN.out]
                exact HBN.out
            · have hccI : (64 : Int) < (c2 : Int) := by omega
              go_wp2_with fail
              go_roundg (T - 64 * (k + 1))
              case measure => have := HR.out; omega
              case rel =>
                have hr64 := HR.out
                have hd9 := rdDrop HRN.out 64 c2 (by rw [HDL.out]; omega) (by rw [HDL.out]; omega)
                rw [if_neg hcc, List.drop_drop] at hd9
                have hin := HIN.out.map 64 c2
                rw [if_neg hcc] at hin
                refine ⟨k + 1, _, c2 - 64, by omega, rfl, by rw [show T - 64 * (k + 1) = r - 64 by omega]; rfl, by omega, hin, hd9, ?_, HAN.out, HFN.out⟩
                rw [turnN, HVK.out, HVN.out]
                exact HBN.out
          · obtain rfl : r = 0 := by omega
            have hk64 : all.length / 64 = k := by have := HLEN.out; omega
            have hVF : turned (padB l) = turnN (turned l) all k := by unfold padB; rw [turned_append, HALL.out, hk64]
            obtain ⟨VF, hVFe⟩ : ∃ x, turnN (turned l) all k = x := ⟨_, rfl⟩
            rw [hVFe] at hVF HBr
            have HSH := Lib.hid (show shaB l = digB VF by unfold shaB; rw [hVF])
            clear hVF hVFe hk64
            obtain ⟨D, hD⟩ : ∃ D, wr.heap.size = D := ⟨_, rfl⟩
            have HD := Lib.hid hD
            have HDB := Lib.hid (show Blk (wr.alloc (.cells (zs 32).toArray 41)) D 41 (u8s (digP VF 0)).toArray by rw [digP_zero, ← hD]; exact Blk.new _ _ _)
            have HRB := Lib.hid (HBA.out.alloc (.cells (zs 32).toArray 41))
            have HFD := Lib.hid (HFr.out.alloc (.cells (zs 32).toArray 41))
            have hDw : w.heap.size < D := by have := HBA.out.lt; omega
            have HCELL := Lib.hid (show ∀ j v, (u32s VF.l)[j]? = some v → (wr.alloc (.cells (zs 32).toArray 41)).cell? ⟨w.heap.size + 1, 0 + j, none⟩ = some v from fun j v hv => by
              rw [(HBr.out.alloc _).cell, List.getElem?_toArray, Nat.zero_add]; exact hv)
            have HDW := Lib.hid hDw
            clear hD hDw
            go_wp2_with (first
              | (refine alloc_at rfl 41 rfl (zs 32).toArray arr32_zero D HD.out ?_)
              | (refine wpList_load_agg rfl 116 (.tmp 3) rfl (w.heap.size + 1) 0 rfl (u32s VF.l) _ HCELL.out Try.underlying116 rfl (v8_size VF) ?_))
            obtain ⟨wo2, rfl⟩ : ∃ wo2 : World, wo2 = wr := ⟨_, rfl⟩
            go_loopg [51] 8 (fun gg u wr => ∃ i : Nat, i ≤ 8 ∧ gg = 8 - i ∧ u = .int .i64 i ∧ Blk wr D 41 (u8s (digP VF i)).toArray ∧ Blk wr w.heap.size 41 (zs 32).toArray ∧ Fr [] w wr)
            case atStart => exact ⟨0, by omega, by omega, rfl, HDB.out, HRB.out, HFD.out⟩
            case round =>
              obtain ⟨i, hi, rfl, rfl, hd, hra, hfr⟩ := hrel
              have JD := Lib.hid hd; have JA := Lib.hid hra; have JF := Lib.hid hfr
              by_cases hlt : i < 8
              · obtain ⟨x, hx, hix⟩ := idx_v8 VF i hlt
                have hc : ∀ j, j < 32 → ∃ v, wr.cell? ⟨D, j, none⟩ = some v := fun j hj => by
                  rw [hd.cell, List.getElem?_toArray]
                  exact ⟨(u8s (digP VF i))[j]'(by simp [digP_length VF i hi]; omega), by simp⟩
                obtain ⟨o0, hc0⟩ := hc (4 * i) (by omega)
                obtain ⟨o1, hc1⟩ := hc (4 * i + 1) (by omega)
                obtain ⟨o2, hc2⟩ := hc (4 * i + 2) (by omega)
                obtain ⟨o3, hc3⟩ := hc (4 * i + 3) (by omega)
                have hz0 := hd.frozen (4 * i)
                have hz1 := hd.frozen (4 * i + 1)
                have hz2 := hd.frozen (4 * i + 2)
                have hz3 := hd.frozen (4 * i + 3)
                have ix := fun (j : Nat) (hj : j < 32) (n : Int) (hn : n = (j : Int)) w' => run_index_arr (P := Try.prog) (b := D) Try.underlying41 size_u8 hj n hn w'
                have i0 := ix (4 * i) (by omega) (4 * (i : Int)) (by omega)
                have i1 := ix (4 * i + 1) (by omega) (4 * (i : Int) + 1) (by omega)
                have i2 := ix (4 * i + 2) (by omega) (4 * (i : Int) + 2) (by omega)
                have i3 := ix (4 * i + 3) (by omega) (4 * (i : Int) + 3) (by omega)
                have hiI : (0 : Int) ≤ (i : Int) ∧ (i : Int) < 8 := by omega
                have HS := Lib.hid (digP_step VF i hlt x hx)
                clear hd hra hfr hc ix hx
                go_wp2_with fail
                go_roundg (8 - (i + 1))
                case measure => omega
                case rel =>
                  rw [byte0, byte1, byte2, byte3]
                  have hb := (((JD.out.set_ (4 * i) (.int .u8 ((byteAt x 0).toNat : Int))).set_ (4 * i + 1) (.int .u8 ((byteAt x 1).toNat : Int))).set_ (4 * i + 2) (.int .u8 ((byteAt x 2).toNat : Int))).set_ (4 * i + 3) (.int .u8 ((byteAt x 3).toNat : Int))
                  rw [u8s_set, u8s_set, u8s_set, u8s_set, HS.out] at hb
                  have hne : w.heap.size ≠ D := by have := HDW.out; omega
                  have hle : w.heap.size ≤ D := by have := HDW.out; omega
                  exact ⟨i + 1, by omega, rfl, by go_num, hb, (((JA.out.far (p := ⟨D, 4 * i, none⟩) hne _).far (p := ⟨D, 4 * i + 1, none⟩) hne _).far (p := ⟨D, 4 * i + 2, none⟩) hne _).far (p := ⟨D, 4 * i + 3, none⟩) hne _,
                    (((JF.out.setCell (p := ⟨D, 4 * i, none⟩) (.inr hle) _).setCell (p := ⟨D, 4 * i + 1, none⟩) (.inr hle) _).setCell (p := ⟨D, 4 * i + 2, none⟩) (.inr hle) _).setCell (p := ⟨D, 4 * i + 3, none⟩) (.inr hle) _⟩
              · obtain rfl : i = 8 := by omega
                rw [digP_all] at hd
                have h32 : (digB VF).length = 32 := digB_length VF
                have HC32 := Lib.hid (show ∀ j v, (u8s (digB VF))[j]? = some v → wr.cell? ⟨D, 0 + j, none⟩ = some v from fun j v hv => by rw [hd.cell, List.getElem?_toArray, Nat.zero_add]; exact hv)
                have HSP := Lib.hid (splice_32 (digB VF) h32)
                have HSI := Lib.hid (dig_size (digB VF) h32)
                have HFT := Lib.hid (show 0 + (u8s (digB VF)).length ≤ (zs 32).length by simp [zs_length, h32])
                clear hd hra hfr h32
                go_wp2_with (first
                  | (refine wpList_load_agg rfl 41 (.tmp 5) rfl D 0 rfl (u8s (digB VF)) _ HC32.out Try.underlying41 rfl HSI.out ?_)
                  | (refine wpList_store_agg rfl 41 (.tmp 2) (.tmp 82) rfl w.heap.size 0 rfl (u8s (digB VF)) rfl (zs 32) 41 JA.out HFT.out (u8s_one _) HSI.out ?_))
                have hb6 := JA.out.setRow_ (splice (zs 32) 0 (u8s (digB VF))).toArray
                rw [HSP.out] at hb6 ⊢
                refine bodyPost_ret (results_cell_row (p := 2) (ty := 41) rfl _ _ w.heap.size 41 (u8s (digB VF)).toArray (0, 0) _ rfl hb6 Try.underlying41 rfl (by rw [List.size_toArray]; exact HSI.out)) rfl ?_
                rw [HSH.out]
                exact ⟨rfl, JF.out.setRow (.inr (Nat.le_refl _)) _⟩
      · have htI : ((M : Int) % 64 == 56) = false := by rw [beq_eq_false_iff_ne]; have h := fun h => hlt (hte.1 h); omega
        have htJ : ((M : Int) % 64 != 56) = true := by rw [bne_iff_ne]; have h := fun h => hlt (hte.1 h); omega
        have HLT := Lib.hid hlt
        have HO1 := Lib.hid (HO.out.alloc (.cells #[.int .u8 0] 5)); have HF1 := Lib.hid (HF.out.alloc (.cells #[.int .u8 0] 5)); have HG1 := Lib.hid (ownB_at HO.out).2.1
        rw [hM] at HO1
        clear hM hte hlt
        go_wp2_with (at_builtin; refine growU8 rfl (.tmp 30) (.tmp 31) rfl Wb.heap.size _ M _ (restB l ++ 128 :: List.replicate k 0) rfl HO1.out _ 1 1 [0] rfl rfl (rd_000 wr _) hMb1 HF1.out.size ?_; intro g2 c2 w4 ho2 hf2; have HO2 := Lib.hid ho2; have HF2 := Lib.hid (HF1.out.trans' hf2 (fun x hx => by simp at hx; subst hx; exact .inr HG1.out)); clear ho2 hf2)
        go_roundg (K - (k + 1))
        case measure => have := HLT.out; omega
        case rel =>
          have hkk := HLT.out; have hm1 := HMM.out
          have ho := HO2.out
          rw [eights_split m K _ HRL.out, ← hm1] at ho
          exact ⟨k + 1, _, _, by omega, rfl, by rw [← hm1]; rfl, ho, HF2.out⟩
  · have hN0 : ((N : Int) == 0) = false := by
      have : N ≠ 0 := by rw [← HN.out]; intro h; exact hl (List.eq_nil_of_length_eq_zero h)
      simpa using this
    have hVt := HV.out hl
    subst hVt
    clear hl
    go_upto_region 4 with fail
    obtain ⟨Wb, hWb⟩ : ∃ Wb, Wa = Wb := ⟨_, rfl⟩
    have hb2 := K2.out; have ha2 := KA.out; have hp2 := KP.out; have hf2 := KF.out
    rw [hWb] at hb2 ha2 hp2 hf2 ⊢
    have hA2 : Rd Wb A (restB l) := HRD.out.fr hf2 (by simp)
    have hrl : (restB l).length = m := by rw [restB_length, HM.out]
    have hm64 : m < 64 := by rw [← HM.out]; omega
    have hpb : p < Wb.heap.size := hp2.lt
    have c8 : (Wb.alloc (.cells #[] 5)).cell? ⟨p, 8, none⟩ = some (.slice A m c) := cell_alloc (by rw [hp2.cell, List.getElem?_toArray, stCells_8]) _
    have Q2 := Lib.hid hb2; have QA := Lib.hid ha2; have QP := Lib.hid hp2; have QF := Lib.hid hf2; have HA2 := Lib.hid hA2; have HRL := Lib.hid hrl
    have hbm : m ≤ 1000000000 := by omega
    have hbm1 : m + 1 ≤ 1000000000 := by omega
    clear hb2 ha2 hp2 hf2 hWb hA2 hrl hN0 K2 KA KP KF HBEG hpb HRD
    go_upto_region 5 with (first
      | (at_builtin; refine copyU8 rfl (.tmp 18) (.tmp 22) rfl Wb _ rfl rfl rfl A m c (restB l) rfl HRL.out HA2.out hbm ?_; intro g1 c1 w3 ho1 hf1; have HO1 := Lib.hid (ho1.alloc (.cells #[.int .u8 128] 5)); have HF1 := Lib.hid (hf1.alloc (.cells #[.int .u8 128] 5)); have HG1 := Lib.hid (ownB_at ho1).2.1; clear ho1 hf1)
      | (at_builtin; refine growU8 rfl (.tmp 23) (.tmp 24) rfl Wb.heap.size _ m _ (restB l) rfl HO1.out _ 1 1 [128] rfl rfl (rd_128 w3 _) hbm1 HF1.out.size ?_; intro g2 c2 w4 ho2 hf2; have HO2 := Lib.hid ho2; have HF2 := Lib.hid (HF1.out.trans' hf2 (fun x hx => by simp at hx; subst hx; exact .inr HG1.out)); clear ho2 hf2))
    have HO3 := Lib.hid (show w4.ownsRow Wb.heap.size 5 1 (.slice (some ⟨g2, 0, none⟩) (m + 1 + 0) c2) (m + 1 + 0) (u8s (restB l ++ 128 :: List.replicate 0 0)) from HO2.out)
    clear HO1 HF1 HG1 HO2 c8
    obtain ⟨K, hK⟩ : ∃ K, padK m = K := ⟨_, rfl⟩
    have hK64 : K < 64 := hK ▸ padK_lt m
    have HK := Lib.hid hK
    clear hK
    go_loopg [4] K (fun gg v wr => ∃ (k g c' : Nat), k ≤ K ∧ gg = K - k ∧ v = .slice (some ⟨g, 0, none⟩) (m + 1 + k) c' ∧ wr.ownsRow Wb.heap.size 5 1 (.slice (some ⟨g, 0, none⟩) (m + 1 + k) c') (m + 1 + k) (u8s (restB l ++ 128 :: List.replicate k 0)) ∧ Fr [] Wb wr)
    case atStart => exact ⟨0, _, _, by omega, by omega, rfl, HO3.out, HF2.out⟩
    case round =>
      obtain ⟨k, g, c', hk, rfl, rfl, ho, hf⟩ := hrel
      have HO := Lib.hid ho; have HF := Lib.hid hf
      clear ho hf
      obtain ⟨M, hM⟩ : ∃ M, m + 1 + k = M := ⟨_, rfl⟩
      have HMM := Lib.hid hM
      have hM0 : (0 : Int) ≤ (M : Int) := by omega
      have hMb : (M : Int) ≤ 1000 := by omega
      have hMb1 : M + 1 ≤ 1000000000 := by omega
      have hte := padK_test m k hm64 (by rw [HK.out]; exact hk)
      rw [HK.out, hM] at hte
      rw [hM]
      by_cases hlt : k = K
      · have htI : ((M : Int) % 64 == 56) = true := by rw [beq_iff_eq]; have := hte.2 hlt; omega
        have htJ : ((M : Int) % 64 != 56) = false := by rw [bne_eq_false_iff_eq]; have := hte.2 hlt; omega
        subst hlt
        clear hM hte
        have hf9 := HF.out
        have c9 : wr.cell? ⟨p, 9, none⟩ = some (.int .u64 (N : Int)) := by rw [(QP.out.fr hf9 (by simp)).cell, List.getElem?_toArray, stCells_9]
        have HEI := Lib.hid (eight_any wr (8 * (N : Int)) (8 * N) (by omega) (by omega))
        have hbM8 : M + 8 ≤ 1000000000 := by omega
        have HE8 := Lib.hid (eightB_length (8 * N))
        have HO4 := Lib.hid HO.out
        have hHS := hf9.size
        have HHS := Lib.hid hHS
        rw [HMM.out] at HO4
        clear hf9 hHS
        go_upto_region 8 with (first
          | (go_at_call 74; (with_reducible refine HEI.out.mono ?_); rintro e w5 ⟨A5, c5, rfl, ho5, hf5⟩; rw [HE8.out] at ho5 ⊢; have HO5 := Lib.hid ho5; have HF5 := Lib.hid hf5; have HO6 := Lib.hid (own_fr HO4.out hf5 (by simp)); clear ho5 hf5 c9)
          | (at_builtin; refine growU8 rfl (.tmp 33) (.tmp 39) rfl Wb.heap.size _ M _ (restB l ++ 128 :: List.replicate k 0) rfl HO6.out A5 8 c5 (eightB (8 * N)) rfl HE8.out (ownB_rd HO5.out) hbM8 (Nat.le_trans HHS.out HF5.out.size) ?_; intro g7 c7 w7 ho7 hf7; have HO7 := Lib.hid ho7; have HF7 := Lib.hid ((HF.out.trans HF5.out).trans' hf7 (fun x hx => by simp at hx; subst hx; exact .inr (ownB_at HO6.out).2.1)); clear ho7 hf7))
        obtain ⟨hlen7, hg7, hc7, hcm7, tl7, hblk7⟩ := ownB_at HO7.out
        have hrd7 := rdB_blk hblk7
        have haE := all_eq l N m k HN.out HM.out HK.out
        rw [haE] at hlen7 hrd7
        obtain ⟨all, hall⟩ : ∃ all, restB l ++ tailB l.length = all := ⟨_, rfl⟩
        rw [hall] at hlen7 hrd7
        obtain ⟨T, hT⟩ : ∃ T, M + 8 = T := ⟨_, rfl⟩
        rw [hT] at hlen7 hc7 ⊢
        have hT64 : T % 64 = 0 := by
          have h1 := all_mod m hm64
          have h2 := HK.out
          have h3 := HMM.out
          omega
        have HALL := Lib.hid hall; have HLEN := Lib.hid hlen7; have HT := Lib.hid hT; have HT64 := Lib.hid hT64
        have G7 := Lib.hid hg7
        have hq7 := HF7.out
        have R2 := Lib.hid (Q2.out.fr hq7 (by simp)); have RA := Lib.hid (QA.out.fr hq7 (by simp)); have RF := Lib.hid (QF.out.trans hq7); have RD := Lib.hid hrd7
        have hgne : g7 ≠ w.heap.size + 1 := by have := Q2.out.lt; omega
        have HGN := Lib.hid hgne
        clear hblk7 hrd7 haE hall hlen7 hT hT64 hg7 hcm7 hq7 hgne HO7 HO6 HO5 HO4 HF7 HF5 HEI HO HF htI htJ
        obtain ⟨wo, rfl⟩ : ∃ wo : World, wo = wr := ⟨_, rfl⟩
        go_loopg [4] T (fun gg v wr => ∃ (k : Nat) (A' : Option Addr) (c' : Nat), 64 * k ≤ T ∧ gg = T - 64 * k ∧ v = .slice A' (T - 64 * k) c' ∧ T - 64 * k ≤ c' ∧ InB g7 A' ∧ Rd wr A' (all.drop (64 * k)) ∧
          Blk wr (w.heap.size + 1) 116 (u32s (turnN (turned l) all k).l).toArray ∧ Blk wr w.heap.size 41 (zs 32).toArray ∧ Fr [] w wr)
        case atStart => exact ⟨0, _, _, by omega, by omega, rfl, by omega, (by intro ad hA; cases hA; exact ⟨rfl, rfl⟩), by simpa using RD.out, R2.out, RA.out, RF.out⟩
        case round =>
          obtain ⟨k, A', c2, hk, rfl, rfl, hc', hin, hrd, hblk, hblA, hfr⟩ := hrel
          obtain ⟨r, hr⟩ : ∃ r, T - 64 * k = r := ⟨_, rfl⟩
          rw [hr] at hc' ⊢
          have HR := Lib.hid hr; have HIN := Lib.hid hin; have HRDr := Lib.hid hrd; have HBr := Lib.hid hblk; have HBA := Lib.hid hblA; have HFr := Lib.hid hfr
          clear hrd hblk hfr hin hblA
          by_cases hlt : 0 < r
          · have hr64 : 64 ≤ r := by have := HT64.out; omega
            clear hr
            have h64c : (64 : Int) ≤ (c2 : Int) := by omega
            have h64r : (64 : Int) ≤ (r : Int) := by omega
            have hdl : (all.drop (64 * k)).length = r := by rw [List.length_drop, HLEN.out, HR.out]
            have ht64 : ((all.drop (64 * k)).take 64).length = 64 := by rw [List.length_take, hdl]; omega
            obtain ⟨VK, hVK⟩ : ∃ x, turnN (turned l) all k = x := ⟨_, rfl⟩
            rw [hVK] at HBr
            obtain ⟨VN, hVN⟩ : ∃ x, turnF VK ((all.drop (64 * k)).take 64) = x := ⟨_, rfl⟩
            have HCELL := Lib.hid (show ∀ j v, (u32s VK.l)[j]? = some v → wr.drew.cell? ⟨w.heap.size + 1, 0 + j, none⟩ = some v from fun j v hv => by
              rw [HBr.out.drew.cell, List.getElem?_toArray, Nat.zero_add]; exact hv)
            have hturn := turn_calls wr.drew VK A' c2 _ ht64 (HRDr.out.drew.take 64) (by omega)
            rw [hVN] at hturn
            have HTURN := Lib.hid hturn
            have HVN := Lib.hid hVN; have HVK := Lib.hid hVK
            have HDL := Lib.hid hdl
            clear hdl ht64 hturn hVN hVK
            go_wp2_with fail
            refine seq_begin (by kernel_rfl) ?_
            refine seq_take (i := 1) (v := (.slice A' r c2)) (d := 47) rfl (by kernel_rfl) (by kernel_rfl) (by kernel_rfl) (by kernel_rfl) (by kernel_rfl) (fun _ _ _ h => h) ?_ ?_
            · intro w9; kernel_rfl
            try simp only [Act.put, List.setIfInBounds_toArray, List.set_cons_zero, List.set_cons_succ]
            refine seq_take (i := 2) (v := (.slice A' 64 c2)) (d := 48) rfl (by kernel_rfl) (by kernel_rfl) (by kernel_rfl) (by kernel_rfl) (by kernel_rfl) (fun _ _ _ h => h) ?_ ?_
            · intro w9; go_simp
            try simp only [Act.put, List.setIfInBounds_toArray, List.set_cons_zero, List.set_cons_succ]
            refine seq_only (i := 0) rfl (by kernel_rfl) (by kernel_rfl) ?_
            have hr4 := fun (a : Act) (o : Oper) (K : Act → World → Prop) (Q : Exit → Act → World → Prop) => @sq_load Try.prog Q a o wr.drew K 116 (.tmp 3) (w.heap.size + 1) 0 (u32s VK.l) (.array 8 108) 46
            refine hr4 _ _ _ _ ?_ ?_ ?_ ?_ ?_ ?_ ?_ ?_
            · kernel_rfl
            · kernel_rfl
            · kernel_rfl
            · exact HCELL.out
            · exact Try.underlying116
            · rfl
            · exact v8_size VK
            clear hr4
            try simp only [Act.put, List.setIfInBounds_toArray, List.set_cons_zero, List.set_cons_succ]
            refine seq_only (i := 3) rfl (by kernel_rfl) (by kernel_rfl) ?_
            have hr7 := fun (a : Act) (o : Oper) (K : Act → World → Prop) (Q : Exit → Act → World → Prop) => @sq_call Try.prog Q a o wr.drew K (Agg (.agg (u32s VN.l).toArray) wr.drew) 77 #[.agg (u32s VK.l).toArray, .slice A' 64 c2] 49
            refine hr7 _ _ _ _ ?_ ?_ ?_ ?_
            · kernel_rfl
            · kernel_rfl
            · exact HTURN.out
            rintro e w9 ⟨rfl, f9⟩
            refine ⟨_, rfl, ?_⟩
            have F9 := Lib.hid f9
            have HB9 := Lib.hid (HBr.out.drew.fr f9 (by simp))
            clear hr7 f9
            try simp only [Act.put, List.setIfInBounds_toArray, List.set_cons_zero, List.set_cons_succ]
            refine seq_only (i := 4) rfl (by kernel_rfl) (by kernel_rfl) ?_
            have hr10 := fun (a : Act) (o : Oper) (K : Act → World → Prop) (Q : Exit → Act → World → Prop) => @sq_store Try.prog Q a o w9 K 116 (.tmp 3) (.tmp 49) (w.heap.size + 1) 0 (u32s VN.l) (u32s VK.l) 116
            refine hr10 _ _ _ _ ?_ ?_ ?_ ?_ ?_ ?_ ?_ ?_ ?_
            · kernel_rfl
            · kernel_rfl
            · kernel_rfl
            · kernel_rfl
            · exact HB9.out
            · exact fitv VN VK
            · exact u32s_one _
            · exact v8_size VN
            clear hr10
            try simp only [Act.put, List.setIfInBounds_toArray, List.set_cons_zero, List.set_cons_succ]
            refine wpAnyH_done (by kernel_rfl) ?_ _
            go_upto_region 9 with fail
            rw [splice_v8]
            have hbn9 := HB9.out.setRow_ (u32s VN.l).toArray
            have han9 := ((HBA.out.drew).fr F9.out (by simp)).setRow_far (show w.heap.size ≠ w.heap.size + 1 by omega) (u32s VN.l).toArray
            have hfn9 := (HFr.out.drew.trans F9.out).setRow (g := w.heap.size + 1) (.inr (by omega)) (u32s VN.l).toArray
            have hfr9 := (((Fr.refl [w.heap.size + 1] wr).drew).trans' F9.out (by simp)).setRow (g := w.heap.size + 1) (.inl (by simp)) (u32s VN.l).toArray
            have hrd9 := HRDr.out.fr hfr9 (fun b off hb => by have := (HIN.out _ hb).1; simp at this; have := HGN.out; simp; omega)
            obtain ⟨WN, hWN⟩ : ∃ WN, w9.setRow (w.heap.size + 1) (u32s VN.l).toArray = WN := ⟨_, rfl⟩
            rw [hWN] at hbn9 han9 hfn9 hrd9 ⊢
            have HBN := Lib.hid hbn9; have HAN := Lib.hid han9; have HFN := Lib.hid hfn9; have HRN := Lib.hid hrd9
            clear hbn9 han9 hfn9 hfr9 hrd9 hWN HB9 F9 HTURN HCELL
            by_cases hcc : c2 = 64
            · subst hcc
              obtain rfl : r = 64 := by omega
              go_wp2_with fail
              go_roundg (T - 64 * (k + 1))
              case measure => have := HR.out; omega
              case rel =>
                have hr64 := HR.out
                have hd9 := rdDrop HRN.out 64 64 (by rw [HDL.out]; omega) (by rw [HDL.out]; omega)
                rw [if_pos rfl, List.drop_drop] at hd9
                refine ⟨k + 1, A', 0, by omega, rfl, by rw [show T - 64 * (k + 1) = 0 by omega], by omega, HIN.out, hd9, ?_, HAN.out, HFN.out⟩
                rw [turnN, HVK.out, HVN.out]
                exact HBN.out
            · have hccI : (64 : Int) < (c2 : Int) := by omega
              go_wp2_with fail
              go_roundg (T - 64 * (k + 1))
              case measure => have := HR.out; omega
              case rel =>
                have hr64 := HR.out
                have hd9 := rdDrop HRN.out 64 c2 (by rw [HDL.out]; omega) (by rw [HDL.out]; omega)
                rw [if_neg hcc, List.drop_drop] at hd9
                have hin := HIN.out.map 64 c2
                rw [if_neg hcc] at hin
                refine ⟨k + 1, _, c2 - 64, by omega, rfl, by rw [show T - 64 * (k + 1) = r - 64 by omega]; rfl, by omega, hin, hd9, ?_, HAN.out, HFN.out⟩
                rw [turnN, HVK.out, HVN.out]
                exact HBN.out
          · obtain rfl : r = 0 := by omega
            have hk64 : all.length / 64 = k := by have := HLEN.out; omega
            have hVF : turned (padB l) = turnN (turned l) all k := by unfold padB; rw [turned_append, HALL.out, hk64]
            obtain ⟨VF, hVFe⟩ : ∃ x, turnN (turned l) all k = x := ⟨_, rfl⟩
            rw [hVFe] at hVF HBr
            have HSH := Lib.hid (show shaB l = digB VF by unfold shaB; rw [hVF])
            clear hVF hVFe hk64
            obtain ⟨D, hD⟩ : ∃ D, wr.heap.size = D := ⟨_, rfl⟩
            have HD := Lib.hid hD
            have HDB := Lib.hid (show Blk (wr.alloc (.cells (zs 32).toArray 41)) D 41 (u8s (digP VF 0)).toArray by rw [digP_zero, ← hD]; exact Blk.new _ _ _)
            have HRB := Lib.hid (HBA.out.alloc (.cells (zs 32).toArray 41))
            have HFD := Lib.hid (HFr.out.alloc (.cells (zs 32).toArray 41))
            have hDw : w.heap.size < D := by have := HBA.out.lt; omega
            have HCELL := Lib.hid (show ∀ j v, (u32s VF.l)[j]? = some v → (wr.alloc (.cells (zs 32).toArray 41)).cell? ⟨w.heap.size + 1, 0 + j, none⟩ = some v from fun j v hv => by
              rw [(HBr.out.alloc _).cell, List.getElem?_toArray, Nat.zero_add]; exact hv)
            have HDW := Lib.hid hDw
            clear hD hDw
            go_wp2_with (first
              | (refine alloc_at rfl 41 rfl (zs 32).toArray arr32_zero D HD.out ?_)
              | (refine wpList_load_agg rfl 116 (.tmp 3) rfl (w.heap.size + 1) 0 rfl (u32s VF.l) _ HCELL.out Try.underlying116 rfl (v8_size VF) ?_))
            obtain ⟨wo2, rfl⟩ : ∃ wo2 : World, wo2 = wr := ⟨_, rfl⟩
            go_loopg [51] 8 (fun gg u wr => ∃ i : Nat, i ≤ 8 ∧ gg = 8 - i ∧ u = .int .i64 i ∧ Blk wr D 41 (u8s (digP VF i)).toArray ∧ Blk wr w.heap.size 41 (zs 32).toArray ∧ Fr [] w wr)
            case atStart => exact ⟨0, by omega, by omega, rfl, HDB.out, HRB.out, HFD.out⟩
            case round =>
              obtain ⟨i, hi, rfl, rfl, hd, hra, hfr⟩ := hrel
              have JD := Lib.hid hd; have JA := Lib.hid hra; have JF := Lib.hid hfr
              by_cases hlt : i < 8
              · obtain ⟨x, hx, hix⟩ := idx_v8 VF i hlt
                have hc : ∀ j, j < 32 → ∃ v, wr.cell? ⟨D, j, none⟩ = some v := fun j hj => by
                  rw [hd.cell, List.getElem?_toArray]
                  exact ⟨(u8s (digP VF i))[j]'(by simp [digP_length VF i hi]; omega), by simp⟩
                obtain ⟨o0, hc0⟩ := hc (4 * i) (by omega)
                obtain ⟨o1, hc1⟩ := hc (4 * i + 1) (by omega)
                obtain ⟨o2, hc2⟩ := hc (4 * i + 2) (by omega)
                obtain ⟨o3, hc3⟩ := hc (4 * i + 3) (by omega)
                have hz0 := hd.frozen (4 * i)
                have hz1 := hd.frozen (4 * i + 1)
                have hz2 := hd.frozen (4 * i + 2)
                have hz3 := hd.frozen (4 * i + 3)
                have ix := fun (j : Nat) (hj : j < 32) (n : Int) (hn : n = (j : Int)) w' => run_index_arr (P := Try.prog) (b := D) Try.underlying41 size_u8 hj n hn w'
                have i0 := ix (4 * i) (by omega) (4 * (i : Int)) (by omega)
                have i1 := ix (4 * i + 1) (by omega) (4 * (i : Int) + 1) (by omega)
                have i2 := ix (4 * i + 2) (by omega) (4 * (i : Int) + 2) (by omega)
                have i3 := ix (4 * i + 3) (by omega) (4 * (i : Int) + 3) (by omega)
                have hiI : (0 : Int) ≤ (i : Int) ∧ (i : Int) < 8 := by omega
                have HS := Lib.hid (digP_step VF i hlt x hx)
                clear hd hra hfr hc ix hx
                go_wp2_with fail
                go_roundg (8 - (i + 1))
                case measure => omega
                case rel =>
                  rw [byte0, byte1, byte2, byte3]
                  have hb := (((JD.out.set_ (4 * i) (.int .u8 ((byteAt x 0).toNat : Int))).set_ (4 * i + 1) (.int .u8 ((byteAt x 1).toNat : Int))).set_ (4 * i + 2) (.int .u8 ((byteAt x 2).toNat : Int))).set_ (4 * i + 3) (.int .u8 ((byteAt x 3).toNat : Int))
                  rw [u8s_set, u8s_set, u8s_set, u8s_set, HS.out] at hb
                  have hne : w.heap.size ≠ D := by have := HDW.out; omega
                  have hle : w.heap.size ≤ D := by have := HDW.out; omega
                  exact ⟨i + 1, by omega, rfl, by go_num, hb, (((JA.out.far (p := ⟨D, 4 * i, none⟩) hne _).far (p := ⟨D, 4 * i + 1, none⟩) hne _).far (p := ⟨D, 4 * i + 2, none⟩) hne _).far (p := ⟨D, 4 * i + 3, none⟩) hne _,
                    (((JF.out.setCell (p := ⟨D, 4 * i, none⟩) (.inr hle) _).setCell (p := ⟨D, 4 * i + 1, none⟩) (.inr hle) _).setCell (p := ⟨D, 4 * i + 2, none⟩) (.inr hle) _).setCell (p := ⟨D, 4 * i + 3, none⟩) (.inr hle) _⟩
              · obtain rfl : i = 8 := by omega
                rw [digP_all] at hd
                have h32 : (digB VF).length = 32 := digB_length VF
                have HC32 := Lib.hid (show ∀ j v, (u8s (digB VF))[j]? = some v → wr.cell? ⟨D, 0 + j, none⟩ = some v from fun j v hv => by rw [hd.cell, List.getElem?_toArray, Nat.zero_add]; exact hv)
                have HSP := Lib.hid (splice_32 (digB VF) h32)
                have HSI := Lib.hid (dig_size (digB VF) h32)
                have HFT := Lib.hid (show 0 + (u8s (digB VF)).length ≤ (zs 32).length by simp [zs_length, h32])
                clear hd hra hfr h32
                go_wp2_with (first
                  | (refine wpList_load_agg rfl 41 (.tmp 5) rfl D 0 rfl (u8s (digB VF)) _ HC32.out Try.underlying41 rfl HSI.out ?_)
                  | (refine wpList_store_agg rfl 41 (.tmp 2) (.tmp 82) rfl w.heap.size 0 rfl (u8s (digB VF)) rfl (zs 32) 41 JA.out HFT.out (u8s_one _) HSI.out ?_))
                have hb6 := JA.out.setRow_ (splice (zs 32) 0 (u8s (digB VF))).toArray
                rw [HSP.out] at hb6 ⊢
                refine bodyPost_ret (results_cell_row (p := 2) (ty := 41) rfl _ _ w.heap.size 41 (u8s (digB VF)).toArray (0, 0) _ rfl hb6 Try.underlying41 rfl (by rw [List.size_toArray]; exact HSI.out)) rfl ?_
                rw [HSH.out]
                exact ⟨rfl, JF.out.setRow (.inr (Nat.le_refl _)) _⟩
      · have htI : ((M : Int) % 64 == 56) = false := by rw [beq_eq_false_iff_ne]; have h := fun h => hlt (hte.1 h); omega
        have htJ : ((M : Int) % 64 != 56) = true := by rw [bne_iff_ne]; have h := fun h => hlt (hte.1 h); omega
        have HLT := Lib.hid hlt
        have HO1 := Lib.hid (HO.out.alloc (.cells #[.int .u8 0] 5)); have HF1 := Lib.hid (HF.out.alloc (.cells #[.int .u8 0] 5)); have HG1 := Lib.hid (ownB_at HO.out).2.1
        rw [hM] at HO1
        clear hM hte hlt
        go_wp2_with (at_builtin; refine growU8 rfl (.tmp 30) (.tmp 31) rfl Wb.heap.size _ M _ (restB l ++ 128 :: List.replicate k 0) rfl HO1.out _ 1 1 [0] rfl rfl (rd_000 wr _) hMb1 HF1.out.size ?_; intro g2 c2 w4 ho2 hf2; have HO2 := Lib.hid ho2; have HF2 := Lib.hid (HF1.out.trans' hf2 (fun x hx => by simp at hx; subst hx; exact .inr HG1.out)); clear ho2 hf2)
        go_roundg (K - (k + 1))
        case measure => have := HLT.out; omega
        case rel =>
          have hkk := HLT.out; have hm1 := HMM.out
          have ho := HO2.out
          rw [eights_split m K _ HRL.out, ← hm1] at ho
          exact ⟨k + 1, _, _, by omega, rfl, by rw [← hm1]; rfl, ho, HF2.out⟩
end Go.Proofs.Ytmmjihkcofgmmaa

/- SHA-256: Sum, Preimage, Hash. -/
namespace Go.Proofs.Ytmmjihkcofgmmaa
open Go.RowKit
set_option maxRecDepth 100000

set_option maxHeartbeats 1000000 in
theorem sum_calls (w : World) (A : Option Addr) (n c : Nat) (l : List UInt8) (hn : l.length = n) (hA : Rd w A l) (hbd : n ≤ 100000000) :
    Calls Try.prog 65 #[.slice A n c] w (Agg (.agg (u8s (shaB l)).toArray) w) := by
  have HB := Lib.hid (Blk.new w 41 (zs 32).toArray)
  have hf0 := (Fr.refl [] w).alloc (.cells (zs 32).toArray 41)
  have HNEW := Lib.hid (new_calls (w.alloc (.cells (zs 32).toArray 41)))
  have HA := Lib.hid (hA.fr hf0 (by simp)); have HF0 := Lib.hid hf0; have HN := Lib.hid hn
  have hl32 := shaB_length l
  have HSP := Lib.hid (splice_32 (shaB l) hl32)
  have HSI := Lib.hid (dig_size (shaB l) hl32)
  have HFT := Lib.hid (show 0 + (u8s (shaB l)).length ≤ (zs 32).length by simp [zs_length, hl32])
  clear hA hf0 hn hl32
  go_enter Try.func65, Try.ntmps65
  go_wp2_with (first
    | (refine wpList_alloc_agg rfl 41 rfl (zs 32).toArray arr32_zero ?_)
    | (go_at_call 71; (with_reducible refine HNEW.out.mono ?_); rintro e w1 ⟨p, rfl, hp, hst, hf1⟩; have HST := Lib.hid hst; have HF1 := Lib.hid hf1; have HP := Lib.hid hp; have HB1 := Lib.hid (HB.out.fr hf1 (by simp)); have HNP := Lib.hid (show w.heap.size ∉ [p] from fun hm => by simp at hm; simp at hp; omega); have HWR := Lib.hid (write_calls w1 p [] none hst A n c l HN.out (HA.out.fr hf1 (by simp)) (by simpa using hbd)); clear hst hf1 hp)
    | (go_at_call 72; (with_reducible refine HWR.out.mono ?_); rintro e w2 ⟨rfl, A2, hst2, _, hf2⟩; have HF2 := Lib.hid hf2; have HB2 := Lib.hid (HB1.out.fr hf2 HNP.out); have HDN := Lib.hid (done_calls w2 p _ A2 hst2); clear hst2 hf2)
    | (go_at_call 73; (with_reducible refine HDN.out.mono ?_); rintro e w3 ⟨rfl, hf3⟩; rw [List.nil_append]; have HF3 := Lib.hid hf3; have HB3 := Lib.hid (HB2.out.fr hf3 (by simp)); clear hf3)
    | (refine wpList_store_agg rfl 41 (.tmp 2) (.tmp 9) rfl w.heap.size 0 rfl (u8s (shaB l)) rfl (zs 32) 41 HB3.out HFT.out (u8s_one _) HSI.out ?_))
  have hb6 := HB3.out.setRow_ (splice (zs 32) 0 (u8s (shaB l))).toArray
  rw [HSP.out] at hb6 ⊢
  refine bodyPost_ret (results_cell_row (p := 2) (ty := 41) rfl _ _ w.heap.size 41 (u8s (shaB l)).toArray (0, 0) _ rfl hb6 Try.underlying41 rfl (by rw [List.size_toArray]; exact HSI.out)) rfl ?_
  have hp := HP.out
  simp at hp
  exact ⟨rfl, ((((HF0.out.trans HF1.out).trans' HF2.out (fun x hx => .inr (by simp at hx; omega))).trans HF3.out)).setRow (.inr (Nat.le_refl _)) _⟩
end Go.Proofs.Ytmmjihkcofgmmaa

/- Preimages; digits. -/
namespace Go.Proofs.Ytmmjihkcofgmmaa
open Go.RowKit
set_option maxRecDepth 100000

/-- the preimage of a tag and texts -/
def preB (tag : UInt8) (ts : List (List UInt8)) : List UInt8 := tag :: ts.flatMap (fun t => eightB t.length ++ t)
theorem preB_step (tag : UInt8) (ts : List (List UInt8)) (k : Nat) (t : List UInt8) (h : ts[k]? = some t) : (preB tag (ts.take k) ++ eightB t.length) ++ t = preB tag (ts.take (k + 1)) := by
  obtain ⟨hk, he⟩ := List.getElem?_eq_some_iff.1 h
  rw [List.take_succ_eq_append_getElem hk]
  simp [preB, he]
theorem preB_take_le (tag : UInt8) (ts : List (List UInt8)) (k : Nat) : (preB tag (ts.take k)).length ≤ (preB tag ts).length := by
  have e : preB tag ts = preB tag (ts.take k) ++ (ts.drop k).flatMap (fun t => eightB t.length ++ t) := by
    unfold preB
    rw [List.cons_append, ← List.flatMap_append, List.take_append_drop]
  rw [e, List.length_append]; omega
/-- texts, as a slice of slices has them -/
def TxIn (w : World) (TA : Option Addr) (ts : List (List UInt8)) : Prop :=
  ∀ i t, ts[i]? = some t → ∃ b off A c, TA = some ⟨b, off, none⟩ ∧ b < w.heap.size ∧ w.cell? ⟨b, off + i, none⟩ = some (.slice A t.length c) ∧ Rd w A t
theorem TxIn.fr {w w' : World} {TA : Option Addr} {ts : List (List UInt8)} (h : TxIn w TA ts) (hf : Fr [] w w') : TxIn w' TA ts := fun i t ht => by
  obtain ⟨b, off, A, c, hA, hb, hc, hr⟩ := h i t ht
  refine ⟨b, off, A, c, hA, Nat.lt_of_lt_of_le hb hf.size, ?_, hr.fr hf (by simp)⟩
  rw [hf.cell (p := ⟨b, off + i, none⟩) hb (by simp)]; exact hc
theorem TxIn.nil (w : World) (TA : Option Addr) : TxIn w TA [] := fun i t h => by simp at h
theorem own_one (w : World) (base : Nat) (hb : base ≤ w.heap.size) (x : UInt8) : (w.alloc (.cells #[u8v x] 5)).ownsRow base 5 1 (.slice (some ⟨w.heap.size, 0, none⟩) 1 1) 1 (u8s [x]) :=
  ⟨by simp, .inr ⟨w.heap.size, 1, #[u8v x], rfl, hb, heap_alloc_new w _, by omega, by unfold maxLen; omega, by simp, by simp [u8s]⟩⟩
theorem ix_sl0 {P : Program} {t e : TypeId} (ht : P.underlying t = some (.slice e)) (hi : (P.info? e).map (·.size) = some 1) {b off n c j : Nat} (hj : j < n) (w : World) :
    (Instr.indexAt t (.slice (some ⟨b, off, none⟩) n c) (.int .i64 (j : Int))).run P w = .ok (.pointer (some ⟨b, off + j, none⟩)) w := by
  simpa using run_index_slice' (P := P) w ht hi (n := n) (c := c) rfl hj
theorem size_sl : (Try.prog.info? 26).map (·.size) = some 1 := by kernel_rfl
set_option maxHeartbeats 2000000 in
theorem pre_calls (w : World) (tag : UInt8) (TA : Option Addr) (n c : Nat) (ts : List (List UInt8)) (hn : ts.length = n) (hT : TxIn w TA ts) (hbd : (preB tag ts).length ≤ 100000000) (hnb : n ≤ 100000000) :
    Calls Try.prog 66 #[.int .u8 (tag.toNat : Int), .slice TA n c] w (OwnB w (preB tag ts)) := by
  have HT := Lib.hid hT; have HN := Lib.hid hn
  have HO0 := Lib.hid (own_one w w.heap.size (Nat.le_refl _) tag)
  have HF0 := Lib.hid ((Fr.refl [] w).alloc (.cells #[u8v tag] 5))
  have hnI : (n : Int) ≤ 100000000 := by omega
  clear hT hn
  go_enter Try.func66, Try.ntmps66
  go_wp2_with fail
  go_loopg [5, 12] n (fun gg v u wr => ∃ (k g c' : Nat), k ≤ n ∧ gg = n - k ∧ u = .int .i64 k ∧ v = .slice (some ⟨g, 0, none⟩) (preB tag (ts.take k)).length c' ∧
    wr.ownsRow w.heap.size 5 1 (.slice (some ⟨g, 0, none⟩) (preB tag (ts.take k)).length c') (preB tag (ts.take k)).length (u8s (preB tag (ts.take k))) ∧ Fr [] w wr)
  case atStart => exact ⟨0, w.heap.size, 1, by omega, by omega, rfl, rfl, HO0.out, HF0.out⟩
  case round =>
    obtain ⟨k, g, c', hk, rfl, rfl, rfl, ho, hf⟩ := hrel
    have HO := Lib.hid ho; have HF := Lib.hid hf
    clear ho hf
    by_cases hlt : k < n
    · obtain ⟨t, ht⟩ : ∃ t, ts[k]? = some t := ⟨ts[k]'(by have := HN.out; omega), by simp⟩
      obtain ⟨b, off, A, ct, hA, hbw, hc0, hr⟩ := HT.out k t ht
      subst hA
      have hc : wr.cell? ⟨b, off + k, none⟩ = some (.slice A t.length ct) := by rw [HF.out.cell (p := ⟨b, off + k, none⟩) hbw (by simp)]; exact hc0
      clear hc0
      have hstep := preB_step tag ts k t ht
      have hle := preB_take_le tag ts (k + 1)
      rw [← hstep] at hle
      have hix := fun w' => ix_sl0 (P := Try.prog) (b := b) (off := off) (n := n) (c := c) Try.underlying25 size_sl hlt w'
      obtain ⟨L, hL⟩ : ∃ L, (preB tag (ts.take k)).length = L := ⟨_, rfl⟩
      obtain ⟨m, hm⟩ : ∃ m, t.length = m := ⟨_, rfl⟩
      rw [hm] at hc
      rw [List.length_append, List.length_append, eightB_length, hL, hm] at hle
      rw [hL]
      have HO1 := Lib.hid HO.out
      rw [hL] at HO1
      have hmI : (m : Int) ≤ 100000000 := by omega
      have hL8 : L + 8 ≤ 1000000000 := by omega
      have hL8m : L + 8 + m ≤ 1000000000 := by omega
      have HEI := Lib.hid (eight_any wr (m : Int) m rfl (by omega))
      have HE8 := Lib.hid (eightB_length m)
      have HSTEP := Lib.hid hstep; have HM := Lib.hid hm; have HL := Lib.hid hL; have HR := Lib.hid hr
      have HHS := Lib.hid HF.out.size
      have hkI : (0 : Int) ≤ (k : Int) ∧ (k : Int) < (n : Int) := by omega
      clear hstep hm hL hr ht hle hbw
      go_wp2_with (first
        | (go_at_call 74; (with_reducible refine HEI.out.mono ?_); rintro e w5 ⟨A5, c5, rfl, ho5, hf5⟩; rw [HE8.out] at ho5 ⊢; have HO5 := Lib.hid ho5; have HF5 := Lib.hid hf5; have HO6 := Lib.hid (own_fr HO1.out hf5 (by simp)); clear ho5 hf5 hc)
        | (at_builtin; refine growU8 rfl (.tmp 16) (.tmp 20) rfl w.heap.size _ L _ (preB tag (ts.take k)) rfl HO6.out A5 8 c5 (eightB m) rfl HE8.out (ownB_rd HO5.out) hL8 (Nat.le_trans HHS.out HF5.out.size) ?_; intro g7 c7 w7 ho7 hf7; have HO7 := Lib.hid ho7; have HF7 := Lib.hid ((HF.out.trans HF5.out).trans' hf7 (fun x hx => by simp at hx; subst hx; exact .inr (ownB_at HO6.out).2.1)); clear ho7 hf7)
        | (at_builtin; refine growU8 rfl (.tmp 21) (.tmp 22) rfl w.heap.size _ (L + 8) _ (preB tag (ts.take k) ++ eightB m) rfl HO7.out A m ct t rfl HM.out (HR.out.fr HF7.out (by simp)) hL8m HF7.out.size ?_; intro g8 c8 w8 ho8 hf8; have HO8 := Lib.hid ho8; have HF8 := Lib.hid (HF7.out.trans' hf8 (fun x hx => by simp at hx; subst hx; exact .inr (ownB_at HO7.out).2.1)); clear ho8 hf8))
      go_roundg (n - (k + 1))
      case measure => omega
      case rel =>
        have e := HSTEP.out
        rw [HM.out] at e
        have el : (preB tag (ts.take (k + 1))).length = L + 8 + m := by rw [← e, List.length_append, List.length_append, eightB_length, HL.out, HM.out]
        have ho := HO8.out
        rw [e] at ho
        exact ⟨k + 1, g8, c8, by omega, rfl, by go_num, by rw [el], by rw [el]; exact ho, HF8.out⟩
    · obtain rfl : k = n := by omega
      go_wp2_with fail
      go_ret
      have e : ts.take k = ts := List.take_of_length_le (by have := HN.out; omega)
      have ho := HO.out
      rw [e] at ho ⊢
      exact OwnB.mk' ho HF.out

theorem rd_two (w : World) (x y : UInt8) (t : TypeId) : Rd (w.alloc (.cells #[u8v x, u8v y] t)) (some ⟨w.heap.size, 0, none⟩) [x, y] := fun _ =>
  ⟨_, 0, rfl, fun j z hz => by
    have hb := Blk.new w t #[u8v x, u8v y]
    rw [hb.cell]
    match j with
    | 0 => simp at hz; subst hz; rfl
    | 1 => simp at hz; subst hz; rfl
    | j + 2 => simp at hz⟩
theorem hash_calls (w : World) (tag : UInt8) (TA : Option Addr) (n c : Nat) (ts : List (List UInt8)) (hn : ts.length = n) (hT : TxIn w TA ts) (hbd : (preB tag ts).length ≤ 100000000) (hnb : n ≤ 100000000) :
    Calls Try.prog 51 #[.int .u8 (tag.toNat : Int), .slice TA n c] w (Agg (.agg (u8s (shaB (preB tag ts))).toArray) w) := by
  have HB := Lib.hid (Blk.new w 41 (zs 32).toArray)
  have hf0 := (Fr.refl [] w).alloc (.cells (zs 32).toArray 41)
  have HPC := Lib.hid (pre_calls (w.alloc (.cells (zs 32).toArray 41)) tag TA n c ts hn (hT.fr hf0) hbd hnb)
  have HF0 := Lib.hid hf0; have HBD := Lib.hid hbd
  have hl32 := shaB_length (preB tag ts)
  have HSP := Lib.hid (splice_32 _ hl32)
  have HSI := Lib.hid (dig_size _ hl32)
  have HFT := Lib.hid (show 0 + (u8s (shaB (preB tag ts))).length ≤ (zs 32).length by simp [zs_length, hl32])
  clear hf0 hn hl32 hT hbd
  go_enter Try.func51, Try.ntmps51
  go_wp2_with (first
    | (refine wpList_alloc_agg rfl 41 rfl (zs 32).toArray arr32_zero ?_)
    | (go_at_call 66; (with_reducible refine HPC.out.mono ?_); rintro e w1 ⟨A1, c1, rfl, ho1, hf1⟩; have HF1 := Lib.hid hf1; have HB1 := Lib.hid (HB.out.fr hf1 (by simp)); have HS := Lib.hid (sum_calls w1 A1 _ c1 _ rfl (ownB_rd ho1) HBD.out); clear ho1 hf1)
    | (go_at_call 65; (with_reducible refine HS.out.mono ?_); rintro e w3 ⟨rfl, hf3⟩; have HF3 := Lib.hid hf3; have HB3 := Lib.hid (HB1.out.fr hf3 (by simp)); clear hf3)
    | (refine wpList_store_agg rfl 41 (.tmp 4) (.tmp 8) rfl w.heap.size 0 rfl (u8s (shaB (preB tag ts))) rfl (zs 32) 41 HB3.out HFT.out (u8s_one _) HSI.out ?_))
  have hb6 := HB3.out.setRow_ (splice (zs 32) 0 (u8s (shaB (preB tag ts)))).toArray
  rw [HSP.out] at hb6 ⊢
  refine bodyPost_ret (results_cell_row (p := 4) (ty := 41) rfl _ _ w.heap.size 41 (u8s (shaB (preB tag ts))).toArray (0, 0) _ rfl hb6 Try.underlying41 rfl (by rw [List.size_toArray]; exact HSI.out)) rfl ?_
  exact ⟨rfl, (((HF0.out.trans HF1.out).trans HF3.out)).setRow (.inr (Nat.le_refl _)) _⟩

theorem run_index_aggU8 {P : Program} {t e : TypeId} {n : Nat} (ht : P.underlying t = some (.array n e)) (he : P.underlying e = some (.int .u8)) (hi : (P.info? e).map (·.size) = some 1) (l : List UInt8) (hl : l.length = n) (k : Nat) (x : UInt8) (hx : l[k]? = some x) (w : World) :
    (Instr.index t (.agg (u8s l).toArray) (.int .i64 (k : Int))).run P w = .ok (u8v x) w := by
  obtain ⟨hk, _⟩ := List.getElem?_eq_some_iff.1 hx
  have h0 : (0 : Int) ≤ k ∧ (k : Int) < n := by omega
  have hkn : k < n := by omega
  have hg : (u8s l)[k]? = some (u8v x) := by rw [u8s_get, hx]; rfl
  cases hq : P.info? e with
  | none => simp [hq] at hi
  | some i =>
    have hs : i.size = 1 := by simpa [hq] using hi
    simp [Instr.index, asIntOf, run_underlying ht, h0, sizeOf, typeInfo, hq, hs, part, isAgg, run_underlying he, go_sem, hkn, hg]

theorem sq_appU8 {Q : Exit → Act → World → Prop} {o : Oper} {a : Act} {w : World} {K : Act → World → Prop} (hgd : o.guard = none) (s x : Operand) (d : Tmp) (hd : o.dst = some d)
    (ho : o.op = .call { callee := .builtin .append, args := #[s, x], argTypes := #[26, 26] })
    (base : Nat) (v : Value) (n : Nat) (xs : List UInt8) (hs : a.eval s = v) (hown : w.ownsRow base 5 1 v n (u8s xs))
    (A : Option Addr) (m c : Nat) (l : List UInt8) (hx : a.eval x = .slice A m c) (hl : l.length = m) (hr : Rd w A l) (hbd : n + m ≤ 1000000000) (hbase : base ≤ w.heap.size)
    (h : ∀ A' c' w', w'.ownsRow base 5 1 (.slice A' (n + m) c') (n + m) (u8s (xs ++ l)) → Fr v.ownBlock.toList w w' → K (a.put (some d) (.slice A' (n + m) c')) w') : Oper.wp Try.prog o a w K Q := by
  have hw : Region.wanted o (yielded #[] a.tmps) = true := by simp [Region.wanted, hgd]
  have := step_append (P := Try.prog) (ops := #[]) (K := K) (Q := Q) (E := True) (a := a) (w := w) hw s x 26 ho base 5 (.int .u8 0) 1 1 Try.underlying26 infoB rfl (by decide) v n (u8s xs) hs hown A m c (u8s l) hx (by simp [hl]) hr.srcAll (u8s_one _) (by unfold maxLen; omega) (by omega) hbase
    (fun v' w' ho' _ hg hb => by
      rw [← u8s_append] at ho'
      obtain ⟨A1, c1, rfl, ho2⟩ := own_form ho'
      have e : (xs ++ l).length = n + m := by have := ho'.1; simp at this; simp [hl]; omega
      rw [e] at ho2 ⊢
      rw [hd]
      exact h A1 c1 w' ho2 ((Fr.refl _ _).grown hg (fun k hk => .inl (by simp [hk]))))
  rwa [if_pos hw] at this
end Go.Proofs.Ytmmjihkcofgmmaa

/- Digests are compared. -/
namespace Go.Proofs.Ytmmjihkcofgmmaa
open Go.RowKit

theorem size_of_u8 (w : World) : (sizeOf 5).run Try.prog w = .ok 1 w := by
  have h := size_u8
  cases hq : Try.prog.info? 5 with
  | none => simp [hq] at h
  | some i =>
    have hs : i.size = 1 := by simpa [hq] using h
    simp [sizeOf, typeInfo, hq, hs]
theorem eq_dig (w : World) (xs ys : List UInt8) (hx : xs.length = 32) (hy : ys.length = 32) :
    (Op.equalIn 10000 41 (.agg (u8s xs).toArray) (.agg (u8s ys).toArray)).run Try.prog w = .ok (xs == ys) w :=
  run_equalIn_bytes w 9998 41 5 32 Try.underlying41 Try.underlying5 size_of_u8 xs ys hx hy
theorem dig_guard' : Try.prog.eqGuardType Try.prog.depth 41 = false := by kernel_rfl
theorem ex_neq_dig {a : Act} {o : Oper} {x y : Operand} {yt : TypeId} (w : World) (ho : o.op = .binOp .neq 41 x y yt) (xs ys : List UInt8) (h1 : a.eval x = .agg (u8s xs).toArray) (h2 : a.eval y = .agg (u8s ys).toArray) (hx : xs.length = 32) (hy : ys.length = 32) :
    (execOp a.eval o).run Try.prog w = .ok (.value (.bool (!(xs == ys)))) w := by
  unfold execOp
  simp [ho, h1, h2, Sem.run_bind, run_eqGuard_agg w .neq 41 x y _ _ dig_guard', run_neq_struct, eq_dig w xs ys hx hy]
theorem ex_eql_dig {a : Act} {o : Oper} {x y : Operand} {yt : TypeId} (w : World) (ho : o.op = .binOp .eql 41 x y yt) (xs ys : List UInt8) (h1 : a.eval x = .agg (u8s xs).toArray) (h2 : a.eval y = .agg (u8s ys).toArray) (hx : xs.length = 32) (hy : ys.length = 32) :
    (execOp a.eval o).run Try.prog w = .ok (.value (.bool (xs == ys))) w := by
  unfold execOp
  simp [ho, h1, h2, Sem.run_bind, run_eqGuard_agg w .eql 41 x y _ _ dig_guard', run_eql_struct, eq_dig w xs ys hx hy]
end Go.Proofs.Ytmmjihkcofgmmaa
