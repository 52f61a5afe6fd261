/- The texts WalAB WalAC ArgsW of this seat, one behind another; what each says stands at its head. -/
import Derived.Test.YtmmjihkcofgmmaaGk

/- The log: a law's state. -/
namespace Go.Proofs.Ytmmjihkcofgmmaa
open Go.RowKit
set_option linter.unusedVariables false

theorem appR_k (n : Nat) (s : Dk.DS) (T : List (List UInt8)) (br : Bool) (b : List UInt8) : (appR n s T (kT T) br b).2.2.2.1 = kT (appR n s T (kT T) br b).2.2.1 := by
  unfold appR
  split
  · rfl
  · split
    · rfl
    · split
      · exact (kT_snoc T b).symm
      · rfl
/-- where nothing dies: refused, or appended -/
theorem appR_any {n : Nat} {s : Dk.DS} {T : List (List UInt8)} {b : List UInt8} (hg : Good n s.bs T) (hd : s.dead = false) (ht : s.torn ≤ 64) (hfu : s.fuse = -1 ∨ (needN b.length : Int) + 1 ≤ s.fuse) (hb : b.length ≤ 100000) :
    ∃ er s' T', appR n s T (kT T) false b = (er, s', T', kT T', false) ∧ s'.dead = false ∧ Good n s'.bs T' ∧ (s.fuse = -1 → s'.fuse = -1) ∧ s'.torn = s.torn ∧ s.writes ≤ s'.writes ∧ s'.writes ≤ s.writes + needN b.length + 1 ∧
      ((n < kT T + needN b.length ∧ er = 12 ∧ s' = s ∧ T' = T) ∨ (kT T + needN b.length ≤ n ∧ er = 0 ∧ T' = T ++ [b])) := by
  rcases Nat.lt_or_ge n (kT T + needN b.length) with h | h
  · exact ⟨12, s, T, appR_full h, hd, hg, id, rfl, Nat.le_refl _, by omega, .inl ⟨h, rfl, rfl, rfl⟩⟩
  · obtain ⟨s', h1, h2, h3, h4, h5, h6, h7⟩ := appR_ok hg hd ht hfu hb h
    exact ⟨0, s', T ++ [b], h1, h2, h3, h4, h5, h6, h7, .inr ⟨h, rfl, rfl⟩⟩
theorem IsLog.onDisk {w w' : World} {x p g n cap : Nat} {s s' : Dk.DS} {lv : Value} {T : List (List UInt8)} {k : Nat} {br : Bool} {D : List Nat} {base : Nat} (h : IsLog w x p g n cap s lv T k br D base) (hd : Dk.IsDisk w' p g n cap s') (hf : Fr [p, g] w w') : IsLog w' x p g n cap s' lv T k br D base := by
  obtain ⟨hxg, hxp, hlx, hlp, hlg⟩ := h.xg
  exact { head := LogB.fr h.head hf (by simp [hxg, hxp]), disk := hd
          rows := h.rows.fr hf (fun q hq => .inl (by simp at hq; rcases hq with rfl | rfl; exact h.hp; exact h.hg)) (fun q hq hm => by simp at hm; rcases hm with rfl | rfl; exact hlp hq; exact hlg hq)
          hk := h.hk, hT := h.hT, hs := h.hs, hx := h.hx, hp := h.hp, hg := h.hg
          hD := fun q hq => Nat.lt_of_lt_of_le (h.hD q hq) hf.size, hb := Nat.le_trans h.hb hf.size }
/-- a law's log: made since the law began -/
structure LS (W0 w : World) (x p g n cap : Nat) (s : Dk.DS) (lv : Value) (T : List (List UInt8)) (br : Bool) (D : List Nat) (base : Nat) : Prop where
  log : IsLog w x p g n cap s lv T (kT T) br D base
  fr : Fr [] W0 w
  hx : W0.heap.size ≤ x
  hp : W0.heap.size ≤ p
  hg : W0.heap.size ≤ g
  hb : W0.heap.size ≤ base
section
variable {W0 w w' : World} {x p g n cap : Nat} {s s' : Dk.DS} {lv : Value} {T : List (List UInt8)} {br : Bool} {D : List Nat} {base : Nat}
theorem LS.to (h : LS W0 w x p g n cap s lv T br D base) (hf : Fr [] w w') : LS W0 w' x p g n cap s lv T br D base := ⟨h.log.fr hf, h.fr.trans hf, h.hx, h.hp, h.hg, h.hb⟩
theorem LS.onDisk (h : LS W0 w x p g n cap s lv T br D base) (hd : Dk.IsDisk w' p g n cap s') (hf : Fr [p, g] w w') : LS W0 w' x p g n cap s' lv T br D base :=
  ⟨h.log.onDisk hd hf, h.fr.trans' hf (fun q hq => .inr (by simp at hq; rcases hq with rfl | rfl; exact h.hp; exact h.hg)), h.hx, h.hp, h.hg, h.hb⟩
theorem LS.own (h : LS W0 w x p g n cap s lv T br D base) : ∀ q ∈ x :: p :: g :: lv.ownBlock.toList, W0.heap.size ≤ q := fun q hq => by
  rcases List.mem_cons.1 hq with rfl | hq
  · exact h.hx
  · rcases List.mem_cons.1 hq with rfl | hq
    · exact h.hp
    · rcases List.mem_cons.1 hq with rfl | hq
      · exact h.hg
      · exact Nat.le_trans h.hb (h.log.rows.lt q (by simpa using hq)).1
/-- an append, in a law -/
def LApp (W0 w : World) (x p g n cap : Nat) (lv : Value) (D : List Nat) (base : Nat) (R : Int × Dk.DS × List (List UInt8) × Nat × Bool) (e : Ending) (w' : World) : Prop :=
  ∃ lv', e = .returned (.int .i64 R.1) ∧ LS W0 w' x p g n cap R.2.1 lv' R.2.2.1 R.2.2.2.2 D base ∧ Fr (x :: p :: g :: lv.ownBlock.toList) w w' ∧ ∀ q, lv'.ownBlock = some q → lv.ownBlock = some q ∨ w.heap.size ≤ q
theorem LS.append (h : LS W0 w x p g n cap s lv T br D base) (A : Option Addr) (m c : Nat) (b : List UInt8) (hm : b.length = m) (hmb : m ≤ 100000) (hmc : m ≤ c) (hA : Rd w A b) (hAx : 0 < b.length → ∀ q off, A = some ⟨q, off, none⟩ → q ≠ x ∧ q ≠ p ∧ q ≠ g) (hw : s.writes ≤ 990000)
    (R : Int × Dk.DS × List (List UInt8) × Nat × Bool) (hR : appR n s T (kT T) br b = R) :
    Calls Try.prog 21 #[.pointer (some ⟨x, 0, none⟩), .slice A m c] w (LApp W0 w x p g n cap lv D base R) := by
  have hk := appR_k n s T br b
  have hc := append_calls w x p g n cap s lv T (kT T) br D base h.log A m c b hm hmb hmc hA hAx hw
  rw [hR] at hk hc
  refine hc.mono fun e w' ⟨lv', he, hl, hf, hq⟩ => ⟨lv', he, ⟨hk ▸ hl, h.fr.trans' hf (fun q hq => .inr (h.own q hq)), h.hx, h.hp, h.hg, h.hb⟩, hf, hq⟩
/-- bytes that lay when the law began -/
theorem LS.arg (h : LS W0 w x p g n cap s lv T br D base) {A : Option Addr} {b : List UInt8} (hA : Rd W0 A b) : Rd w A b ∧ (0 < b.length → ∀ q off, A = some ⟨q, off, none⟩ → q ≠ x ∧ q ≠ p ∧ q ≠ g) := by
  refine ⟨hA.fr h.fr (by simp), fun hl q off hq => ?_⟩
  have h0 := hA.blk_lt hl q off hq
  have h1 := h.hx
  have h2 := h.hp
  have h3 := h.hg
  omega
end
/-- a new disk, and the log on it -/
def NewD (w : World) (n : Nat) (e : Ending) (w' : World) : Prop :=
  ∃ p g, e = .returned (.tuple #[.pointer (some ⟨p, 0, none⟩), .int .i64 0]) ∧ w.heap.size ≤ p ∧ w.heap.size ≤ g ∧ Dk.IsDisk w' p g n n (Dk.DS.new n) ∧ Fr [] w w'
theorem newd_calls (w : World) (z : Int) (n : Nat) (hz : z = (n : Int)) (h : n ≤ 4096) : Calls Try.prog 12 #[.int .i64 z] w (NewD w n) := by
  subst hz
  exact (Dk.new_good w n h).mono fun e w' ⟨he, hd, hf⟩ => ⟨_, _, he, by omega, by omega, hd, hf⟩
def OpenL (W0 w : World) (p g n cap : Nat) (s : Dk.DS) (D : List Nat) (T : List (List UInt8)) (e : Ending) (w' : World) : Prop :=
  ∃ x lv, e = .returned (.tuple #[.pointer (some ⟨x, 0, none⟩), .int .i64 0]) ∧ w.heap.size ≤ x ∧ LS W0 w' x p g n cap s lv T false (x :: p :: g :: D) w.heap.size ∧ Fr [] w w'
theorem openl_calls (W0 w : World) (p g n cap : Nat) (s : Dk.DS) (T : List (List UInt8)) (h : Dk.IsDisk w p g n cap s) (hd : s.dead = false) (hg : Good n s.bs T) (hf : Fr [] W0 w) (hp : W0.heap.size ≤ p) (hgg : W0.heap.size ≤ g) (D : List Nat) (hD : ∀ y ∈ D, y < w.heap.size) :
    Calls Try.prog 14 #[.pointer (some ⟨p, 0, none⟩)] w (OpenL W0 w p g n cap s D T) :=
  (open_good w p g n cap s T h hd hg D hD).mono fun e w' ⟨x, lv, he, hx, hl, hf'⟩ => ⟨x, lv, he, hx, ⟨hl, hf.trans hf', Nat.le_trans hf.size hx, hp, hgg, hf.size⟩, hf'⟩
/-- one step's cells, wherever only new blocks were made -/
theorem StIn.at {W0 w : World} {A : Option Addr} {l : List St} (h : StIn W0 A l) (hf : Fr [] W0 w) {i : Nat} {st : St} (hi : l[i]? = some st) :
    ∃ b off A' c, A = some ⟨b, off, none⟩ ∧ w.cell? ⟨b, off + i * 4, none⟩ = some (.slice A' st.B.length c) ∧ st.B.length ≤ c ∧ Rd W0 A' st.B ∧
      w.cell? ⟨b, off + i * 4 + 1, none⟩ = some (.bool st.dies) ∧ w.cell? ⟨b, off + i * 4 + 2, none⟩ = some (.int .i64 st.k) ∧ w.cell? ⟨b, off + i * 4 + 3, none⟩ = some (.int .i64 st.torn) := by
  obtain ⟨b, off, A', c, hA, hb, h1, h2, h3, h4, h5, h6⟩ := h i st hi
  exact ⟨b, off, A', c, hA, (hf.cell (p := ⟨b, _, none⟩) hb (by simp)).trans h1, h2, h3, (hf.cell (p := ⟨b, _, none⟩) hb (by simp)).trans h4, (hf.cell (p := ⟨b, _, none⟩) hb (by simp)).trans h5, (hf.cell (p := ⟨b, _, none⟩) hb (by simp)).trans h6⟩
theorem StIn.fr {W0 w : World} {A : Option Addr} {l : List St} (h : StIn W0 A l) (hf : Fr [] W0 w) : StIn w A l := fun i st hi => by
  obtain ⟨b, off, A', c, hA, hb, h1, h2, h3, h4, h5, h6⟩ := h i st hi
  exact ⟨b, off, A', c, hA, Nat.lt_of_lt_of_le hb hf.size, (hf.cell (p := ⟨b, _, none⟩) hb (by simp)).trans h1, h2, h3.fr hf (by simp), (hf.cell (p := ⟨b, _, none⟩) hb (by simp)).trans h4, (hf.cell (p := ⟨b, _, none⟩) hb (by simp)).trans h5, (hf.cell (p := ⟨b, _, none⟩) hb (by simp)).trans h6⟩
theorem great_small {l : List St} (h : greatB l = false) {i : Nat} {st : St} (hi : l[i]? = some st) (h60 : i < 60) : st.B.length ≤ 1000 := by
  unfold greatB at h
  rw [List.any_eq_false] at h
  have := h st (List.mem_of_getElem? (i := i) (by rw [List.getElem?_take_of_lt h60]; exact hi))
  simpa using this
end Go.Proofs.Ytmmjihkcofgmmaa

/- The log: the row of the records that were told OK; what an append may bring. -/
namespace Go.Proofs.Ytmmjihkcofgmmaa
open Go.RowKit
set_option linter.unusedVariables false

/-- a row of the law's own, of texts that lay when the law began -/
def ARow (W0 w : World) (v : Value) (T : List (List UInt8)) : Prop :=
  ∃ vs : List Value, vs.length = T.length ∧ w.ownsRow W0.heap.size 26 1 v T.length vs ∧ ∀ (i : Nat) (t : List UInt8), T[i]? = some t → ∃ (A : Option Addr) (c : Nat), vs[i]? = some (Value.slice A t.length c) ∧ Rd W0 A t
theorem ARow.nil (W0 w : World) : ARow W0 w (.slice none 0 0) [] := ⟨[], rfl, World.ownsRow_nil _ _ _ _, fun i t ht => by simp at ht⟩
theorem ARow.fr {W0 w w' : World} {v : Value} {T : List (List UInt8)} {S : List Nat} (h : ARow W0 w v T) (hf : Fr S w w') (hv : ∀ k, v.ownBlock = some k → k ∉ S) : ARow W0 w' v T := by
  obtain ⟨vs, h1, h2, h3⟩ := h
  exact ⟨vs, h1, own_fr h2 hf hv, h3⟩
theorem ARow.fr0 {W0 w w' : World} {v : Value} {T : List (List UInt8)} (h : ARow W0 w v T) (hf : Fr [] w w') : ARow W0 w' v T := h.fr hf (by simp)
theorem ARow.toIn {W0 w : World} {v : Value} {T : List (List UInt8)} (h : ARow W0 w v T) (hf : Fr [] W0 w) : ∃ A c, v = .slice A T.length c ∧ TxIn w A T := by
  obtain ⟨vs, h1, h2, h3⟩ := h
  obtain ⟨A, c, rfl, hc, _, hcell⟩ := own_cells h2
  refine ⟨A, c, rfl, fun i t ht => ?_⟩
  obtain ⟨B, d, e1, e2⟩ := h3 i t ht
  obtain ⟨g, rfl, hg, hcl⟩ := hcell i _ e1
  exact ⟨g, 0, B, d, rfl, hg, by rw [Nat.zero_add]; exact hcl, e2.fr hf (by simp)⟩
theorem ARow.lt {W0 w : World} {v : Value} {T : List (List UInt8)} (h : ARow W0 w v T) : ∀ k, v.ownBlock = some k → W0.heap.size ≤ k ∧ k < w.heap.size := by
  obtain ⟨vs, _, h2, _⟩ := h
  exact fun k hk => h2.lt k hk
theorem ARow.ne {W0 w : World} {v : Value} {T : List (List UInt8)} (h : ARow W0 w v T) {g : Nat} {t : TypeId} {cs : Array Value} (hg : Blk w g t cs) (hne : (26 : TypeId) ≠ t) : v.ownBlock ≠ some g := by
  obtain ⟨vs, _, h2, _⟩ := h
  exact own_blk_ne h2 hg hne
theorem ARow.disk {W0 w w' : World} {v : Value} {T : List (List UInt8)} {p g n cap : Nat} {s : Dk.DS} (h : ARow W0 w v T) (hd : Dk.IsDisk w p g n cap s) (hf : Fr [p, g] w w') : ARow W0 w' v T := by
  obtain ⟨rest, hr⟩ := hd.rows
  exact h.fr hf (fun k hk hm => by
    simp at hm
    rcases hm with rfl | rfl
    · exact h.ne hd.head (by decide) hk
    · exact h.ne hr (by decide) hk)
theorem ARow.app {W0 w w' : World} {v : Value} {T T' : List (List UInt8)} {x p g n cap : Nat} {s : Dk.DS} {lv : Value} {br : Bool} {D : List Nat} {base : Nat} (h : ARow W0 w v T) (hl : LS W0 w x p g n cap s lv T' br D base) (hne : ∀ q, lv.ownBlock = some q → v.ownBlock ≠ some q) (hf : Fr (x :: p :: g :: lv.ownBlock.toList) w w') : ARow W0 w' v T := by
  obtain ⟨rest, hr⟩ := hl.log.disk.rows
  refine h.fr hf (fun k hk hm => ?_)
  rcases List.mem_cons.1 hm with rfl | hm
  · exact h.ne hl.log.head (by decide) hk
  · rcases List.mem_cons.1 hm with rfl | hm
    · exact h.ne hl.log.disk.head (by decide) hk
    · rcases List.mem_cons.1 hm with rfl | hm
      · exact h.ne hr (by decide) hk
      · exact hne k (by simpa using hm) hk
theorem wpList_appA {ops : Array Oper} {rest : List Oper} {o : Oper} {a : Act} {w : World} {Q : Exit → Act → World → Prop} (hgd : o.guard = none) (s x : Operand) (d : Tmp) (hd : o.dst = some d)
    (ho : o.op = .call { callee := .builtin .append, args := #[s, x], argTypes := #[25, 25] })
    (W0 : World) (v : Value) (T : List (List UInt8)) (hs : a.eval s = v) (h1 : ARow W0 w v T) (t : List UInt8) (A : Option Addr) (n c g ce : Nat) (hn : t.length = n) (hx : a.eval x = .slice (some ⟨g, 0, none⟩) 1 ce) (hg : Blk w g 26 #[.slice A n c])
    (hr : Rd W0 A t) (hbd : T.length ≤ 1000000) (hbase : W0.heap.size ≤ w.heap.size)
    (h : ∀ v' w', ARow W0 w' v' (T ++ [t]) → Fr v.ownBlock.toList w w' → (∀ k, v'.ownBlock = some k → v.ownBlock = some k ∨ k = w.heap.size) → wpList Try.prog ops Q rest (a.put (some d) v') w') : wpList Try.prog ops Q (o :: rest) a w := by
  subst hn
  obtain ⟨vs1, p1, q1, r1⟩ := h1
  have hsrc : 0 < [Value.slice A t.length c].length → ∃ ad, (some (⟨g, 0, none⟩ : Addr)) = some ad ∧ ∀ j u, [Value.slice A t.length c][j]? = some u → w.cell? (ad.add j) = some u := fun _ => ⟨_, rfl, fun j u hu => by
    match j with
    | 0 => simp at hu; subst hu; rw [addr_add0, hg.cell]; rfl
    | j + 1 => simp at hu⟩
  refine wpList_append hgd s x 25 ho W0.heap.size 26 (.slice none 0 0) 1 24 Try.underlying25 infoSl rfl (by decide) v T.length vs1 hs q1 (some ⟨g, 0, none⟩) 1 ce [.slice A t.length c] hx rfl hsrc (by simp [Value.oneCell']) (by unfold maxLen; omega) (by omega) hbase ?_
  intro v' w' ho' _ hg' hb
  rw [hd]
  refine h v' w' ⟨vs1 ++ [.slice A t.length c], by simp [p1], by simpa using ho', fun i t' ht => ?_⟩ ((Fr.refl _ _).grown hg' (fun k hk => .inl (by simp [hk]))) (fun k hk => by
    rcases hb with hb | hb
    · rw [hb] at hk; exact .inl hk
    · rw [hb] at hk; injection hk with hk; exact .inr hk.symm)
  rcases Nat.lt_or_ge i T.length with hi | hi
  · rw [List.getElem?_append_left hi] at ht
    obtain ⟨B, dd, e1, e2⟩ := r1 i t' ht
    exact ⟨B, dd, by rw [List.getElem?_append_left (by omega)]; exact e1, e2⟩
  · rw [List.getElem?_append_right hi] at ht
    have h0 : i - T.length = 0 := by
      have := (List.getElem?_eq_some_iff.1 ht).1
      simp at this; omega
    rw [h0] at ht
    simp at ht
    subst ht
    exact ⟨A, c, by rw [List.getElem?_append_right (by omega), p1, h0]; rfl, hr⟩
/-- the law's row grows: the log lies as it lay -/
theorem LS.appA {W0 w w' : World} {va va' : Value} {x p g n cap : Nat} {s : Dk.DS} {lv : Value} {T T' TA : List (List UInt8)} {br : Bool} {D : List Nat} {base : Nat} (h : LS W0 w x p g n cap s lv T br D base) (hA : ARow W0 w va TA) (hA' : ARow W0 w' va' T') (hD : ∀ q, va.ownBlock = some q → q ∈ D) (hne : ∀ q, lv.ownBlock = some q → va.ownBlock ≠ some q)
    (hf : Fr va.ownBlock.toList w w') (hq : ∀ k, va'.ownBlock = some k → va.ownBlock = some k ∨ k = w.heap.size) :
    ∃ D', LS W0 w' x p g n cap s lv T br D' base ∧ (∀ q, va'.ownBlock = some q → q ∈ D') ∧ ∀ q, lv.ownBlock = some q → va'.ownBlock ≠ some q := by
  obtain ⟨rest, hr⟩ := h.log.disk.rows
  have hfr : Fr [] W0 w' := h.fr.trans' hf (fun q hq => .inr (hA.lt q (by simpa using hq)).1)
  have hx : x ∉ va.ownBlock.toList := fun hm => hA.ne h.log.head (by decide) (by simpa using hm)
  have hp : p ∉ va.ownBlock.toList := fun hm => hA.ne h.log.disk.head (by decide) (by simpa using hm)
  have hg : g ∉ va.ownBlock.toList := fun hm => hA.ne hr (by decide) (by simpa using hm)
  have hne' : ∀ q, lv.ownBlock = some q → va'.ownBlock ≠ some q := fun q h1 h2 => by
    rcases hq q h2 with h3 | h3
    · exact hne q h1 h3
    · have := (h.log.rows.lt q h1).2
      omega
  have hlv : ∀ q, lv.ownBlock = some q → q ∉ va.ownBlock.toList := fun q h1 hm => hne q h1 (by simpa using hm)
  rcases hv : va'.ownBlock with _ | k
  · exact ⟨D, ⟨{ head := LogB.fr h.log.head hf hx, disk := h.log.disk.fr hf hp hg, rows := h.log.rows.fr hf (fun q hq => .inl (hD q (by simpa using hq))) hlv, hk := h.log.hk, hT := h.log.hT, hs := h.log.hs, hx := h.log.hx, hp := h.log.hp, hg := h.log.hg, hD := fun q hq => Nat.lt_of_lt_of_le (h.log.hD q hq) hf.size, hb := Nat.le_trans h.log.hb hf.size }, hfr, h.hx, h.hp, h.hg, h.hb⟩, fun q h => (by cases h), fun q _ h => (by cases h)⟩
  · rcases hq k hv with hk | hk
    · exact ⟨D, ⟨{ head := LogB.fr h.log.head hf hx, disk := h.log.disk.fr hf hp hg, rows := h.log.rows.fr hf (fun q hq => .inl (hD q (by simpa using hq))) hlv, hk := h.log.hk, hT := h.log.hT, hs := h.log.hs, hx := h.log.hx, hp := h.log.hp, hg := h.log.hg, hD := fun q hq => Nat.lt_of_lt_of_le (h.log.hD q hq) hf.size, hb := Nat.le_trans h.log.hb hf.size }, hfr, h.hx, h.hp, h.hg, h.hb⟩, fun q h => (by cases h; exact hD k hk), fun q h1 h2 => hne' q h1 (by rw [hv]; exact h2)⟩
    · refine ⟨k :: D, ⟨{ head := LogB.fr h.log.head hf hx, disk := h.log.disk.fr hf hp hg, rows := (h.log.rows.grow (by omega : w.heap.size ≤ k)).fr hf (fun q hq => .inl (List.mem_cons_of_mem _ (hD q (by simpa using hq)))) hlv, hk := h.log.hk, hT := h.log.hT, hs := h.log.hs, hx := List.mem_cons_of_mem _ h.log.hx, hp := List.mem_cons_of_mem _ h.log.hp, hg := List.mem_cons_of_mem _ h.log.hg, hD := fun q hq => ?_, hb := Nat.le_trans h.log.hb hf.size }, hfr, h.hx, h.hp, h.hg, h.hb⟩, fun q h => (by cases h; simp), fun q h1 h2 => hne' q h1 (by rw [hv]; exact h2)⟩
      rcases List.mem_cons.1 hq with rfl | hq
      · exact (hA'.lt _ hv).2
      · exact Nat.lt_of_lt_of_le (h.log.hD q hq) hf.size
/-- an append on a good disk, fuse or no fuse -/
theorem appR_out {n : Nat} {s : Dk.DS} {T : List (List UInt8)} {b : List UInt8} (hg : Good n s.bs T) (hd : s.dead = false) (ht : s.torn ≤ 64) (hfu : -1 ≤ s.fuse) (hb : b.length ≤ 100000) :
    ∃ er s' T' br, appR n s T (kT T) false b = (er, s', T', kT T', br) ∧ s'.writes ≤ s.writes + needN b.length + 1 ∧
      ((er = 12 ∧ s' = s ∧ T' = T ∧ br = false) ∨ (er = 0 ∧ s'.dead = false ∧ Good n s'.bs (T ++ [b]) ∧ T' = T ++ [b] ∧ br = false) ∨ (er = 30 ∧ s'.dead = true ∧ (Good n s'.bs T ∨ Good n s'.bs (T ++ [b])) ∧ T' = T ∧ br = true)) := by
  rcases Nat.lt_or_ge n (kT T + needN b.length) with hroom | hroom
  · exact ⟨12, s, T, false, appR_full hroom, by omega, .inl ⟨rfl, rfl, rfl, rfl⟩⟩
  · have h := app_good n s T b hg hd ht hfu hb hroom
    obtain ⟨r, hr⟩ : ∃ r, wrAll n s (logW n (kT T) (secT T.length b (sumR (lastR T) T.length b))) = r := ⟨_, rfl⟩
    have hR : appR n s T (kT T) false b = if r.2 = 0 then (0, r.1, T ++ [b], kT T + needN b.length, false) else (r.2, r.1, T, kT T, true) := by
      unfold appR
      rw [if_neg (by simp), if_neg (by omega), hr]
    rw [hr] at h
    rcases h.how with ⟨h1, h2, h3⟩ | ⟨h1, h2, h3⟩
    · exact ⟨0, r.1, T ++ [b], false, by rw [hR, if_pos h1, kT_snoc], h.w2, .inr (.inl ⟨rfl, h2, h3, rfl, rfl⟩)⟩
    · exact ⟨30, r.1, T, true, by rw [hR, if_neg (by omega), h1], h.w2, .inr (.inr ⟨rfl, h2, h3, rfl, rfl⟩)⟩
set_option maxRecDepth 100000 in
theorem broken_calls (w : World) (x p : Nat) (lv : Value) (k : Int) (last : List UInt8) (hl : last.length = 32) (h : LogB w x p lv k last true) (v : Value) :
    Calls Try.prog 21 #[.pointer (some ⟨x, 0, none⟩), v] w (Same (.int .i64 30) w) := by
  have c35 := h.c35 hl
  clear h
  go_enter Try.func21, Try.ntmps21
  go_wp2_with fail
  go_ret
  exact ⟨rfl, rfl⟩
theorem same_self (w : World) (A : Option Addr) (n c : Nat) (la : List (List UInt8)) (hn : la.length = n) (hA : TxIn w A la) (B : Option Addr) (m d : Nat) (lb : List (List UInt8)) (hm : lb.length = m) (hB : TxIn w B lb) (hb : n ≤ 100000000) (he : la = lb) :
    Calls Try.prog 16 #[.slice A n c, .slice B m d] w (Agg (.bool true) w) := by
  subst he
  have := same08_calls w A n c la hn hA B m d la hm hB hb (by omega)
  rwa [beq_self_eq_true] at this
theorem ex_neq_same {a : Act} {o : Oper} {x y : Operand} {yt : TypeId} (w : World) (ho : o.op = .binOp .neq 41 x y yt) (xs : List UInt8) (h1 : a.eval x = .agg (u8s xs).toArray) (h2 : a.eval y = .agg (u8s xs).toArray) (hx : xs.length = 32) :
    (execOp a.eval o).run Try.prog w = .ok (.value (.bool false)) w := by
  have := ex_neq_dig w ho xs xs h1 h2 hx hx
  rwa [beq_self_eq_true] at this
end Go.Proofs.Ytmmjihkcofgmmaa

/- The laws' steps, as they come in. -/
namespace Go.Proofs.Ytmmjihkcofgmmaa
open Go.ChangeShapes Go.WideShapes Go.ChangeAt Go.RowKit

set_option maxRecDepth 100000 in
theorem open_steps {H : Type} {enc : TypeId × Value → H} {W : World} {base : Nat} {v : Value} {d : DataW H} {p : List MemPlace}
    (vl : Value.okWide Try.prog W .any base 45 v) (h : DataW.Trod enc Try.prog W 0 (fun _ => true) true 45 v d p) :
    ∃ (A : Option Addr) (c : Nat) (l : List St), v = .slice A l.length c ∧ l.length ≤ maxLen ∧ StIn W A l ∧ ∀ (i : Nat) (s : St), l[i]? = some s → (-9223372036854775808 ≤ s.k ∧ s.k ≤ 9223372036854775807) ∧ (-9223372036854775808 ≤ s.torn ∧ s.torn ≤ 9223372036854775807) := by
  obtain ⟨A, n, c, rfl, hn, _, hi⟩ := open_structs (C := 4) Try.underlying45 Try.underlying49 (by kernel_rfl) (by decide) vl h
  have key : ∀ i, i < n → ∃ s : St, (∃ b off A' c', A = some ⟨b, off, none⟩ ∧ b < W.heap.size ∧ W.cell? ⟨b, off + i * 4, none⟩ = some (.slice A' s.B.length c') ∧ s.B.length ≤ c' ∧ Rd W A' s.B ∧
      W.cell? ⟨b, off + i * 4 + 1, none⟩ = some (.bool s.dies) ∧ W.cell? ⟨b, off + i * 4 + 2, none⟩ = some (.int .i64 s.k) ∧ W.cell? ⟨b, off + i * 4 + 3, none⟩ = some (.int .i64 s.torn)) ∧
      (-9223372036854775808 ≤ s.k ∧ s.k ≤ 9223372036854775807) ∧ (-9223372036854775808 ≤ s.torn ∧ s.torn ≤ 9223372036854775807) := by
    intro i him
    obtain ⟨b, off, hA, hb, cs, m, hcl, hc, hf⟩ := hi i him
    have t5 : Try.prog.cellsOf 5 = 1 := by kernel_rfl
    have t3 : Try.prog.cellsOf 3 = 1 := by kernel_rfl
    have t26 : Try.prog.cellsOf 26 = 1 := by kernel_rfl
    have t4 : Try.prog.cellsOf 4 = 1 := by kernel_rfl
    match cs, hcl with
    | [x0, x1, x2, x3], _ =>
      obtain ⟨y0, g0⟩ := hf 0 _ rfl
      have h0 : DataW.trod enc Try.prog W 0 (fun _ => true) true m 26 (([x0, x1, x2, x3].drop 0).take (Try.prog.cellsOf 26)) = some y0 := g0
      obtain ⟨y1, g1⟩ := hf 1 _ rfl
      have h1 : DataW.trod enc Try.prog W 0 (fun _ => true) true m 4 (([x0, x1, x2, x3].drop 1).take (Try.prog.cellsOf 4)) = some y1 := g1
      obtain ⟨y2, g2⟩ := hf 2 _ rfl
      have h2 : DataW.trod enc Try.prog W 0 (fun _ => true) true m 3 (([x0, x1, x2, x3].drop 2).take (Try.prog.cellsOf 3)) = some y2 := g2
      obtain ⟨y3, g3⟩ := hf 3 _ rfl
      have h3 : DataW.trod enc Try.prog W 0 (fun _ => true) true m 3 (([x0, x1, x2, x3].drop 3).take (Try.prog.cellsOf 3)) = some y3 := g3
      rw [t26] at h0; rw [t4] at h1; rw [t3] at h2 h3
      simp only [List.drop_zero, List.drop_succ_cons, List.take_succ_cons, List.take_zero] at h0 h1 h2 h3
      obtain ⟨BA, bl, bc, e0, hbl, _, hrd⟩ := open_bytes Try.underlying26 Try.underlying5 t5 h0
      obtain ⟨b1, e1, _⟩ := DataW.trod_bool Try.underlying4 h1
      obtain ⟨n2, e2, _, w2⟩ := DataW.trod_int Try.underlying3 h2
      obtain ⟨n3, e3, _, w3⟩ := DataW.trod_int Try.underlying3 h3
      simp only [List.cons.injEq, and_true] at e0 e1 e2 e3
      subst e0 e1 e2 e3
      exact ⟨⟨bl, b1, n2, n3⟩, ⟨b, off, BA, bc, hA, hb, hc 0 (by omega), hbl, hrd, hc 1 (by omega), hc 2 (by omega), hc 3 (by omega)⟩, wf_i64 w2, wf_i64 w3⟩
  obtain ⟨l, hll, hg⟩ := list_of _ n key
  subst hll
  exact ⟨A, c, l, rfl, hn, fun i s hs => (hg i s hs).1, fun i s hs => (hg i s hs).2⟩
end Go.Proofs.Ytmmjihkcofgmmaa
