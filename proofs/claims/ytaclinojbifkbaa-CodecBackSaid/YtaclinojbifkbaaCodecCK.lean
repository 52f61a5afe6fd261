/- A writer beside a row of bytes of the law's own. -/
import Derived.Test.YtaclinojbifkbaaCodecRef
namespace Go.Proofs.Ytaclinojbifkbaa
open Go.RowKit

structure CK (w0 w : World) (B p : Nat) (A : Option Addr) (m c : Nat) (bs : List UInt8) (er : Int) (l : List UInt8) : Prop where
  ex : ∃ ob, Wr w0 w p ob bs er ∧ (∀ k ∈ ob, k < B) ∧ ∀ k, (Value.slice A m c).ownBlock = some k → k ≠ p ∧ k ∉ ob
  own : w.ownsRow w0.heap.size 5 1 (.slice A m c) m (u8s l)
  pB : p < B

variable {w0 w : World} {B p : Nat} {A : Option Addr} {m c : Nat} {bs : List UInt8} {er : Int} {l : List UInt8}

theorem CK.len (h : CK w0 w B p A m c bs er l) : l.length = m := by have := h.own.1; simp at this; omega
theorem CK.fr_ (h : CK w0 w B p A m c bs er l) : Fr [] w0 w := by obtain ⟨ob, hw, _⟩ := h.ex; exact hw.fr_
theorem CK.lt (h : CK w0 w B p A m c bs er l) : p < w.heap.size := by obtain ⟨ob, hw, _⟩ := h.ex; exact hw.lt
theorem CK.p0 (h : CK w0 w B p A m c bs er l) : w0.heap.size ≤ p := by obtain ⟨ob, hw, _⟩ := h.ex; exact hw.new_
theorem CK.fr0 {w' : World} (h : CK w0 w B p A m c bs er l) (hf : Fr [] w w') : CK w0 w' B p A m c bs er l := by
  obtain ⟨⟨ob, hw, hb, ho⟩, own, pB⟩ := h
  exact ⟨⟨ob, hw.fr0 hf, hb, ho⟩, own_fr own hf (by simp), pB⟩
theorem CK.top (h : CK w0 w B p A m c bs er l) : CK w0 w w.heap.size p A m c bs er l := by
  obtain ⟨⟨ob, hw, hb, ho⟩, own, pB⟩ := h
  exact ⟨⟨ob, hw, fun k hk => (hw.obs k hk).2, ho⟩, own, hw.lt⟩

/-- what an operation of the writer leaves: blocks from B on are as before -/
def CKP (w0 w : World) (B p : Nat) (A : Option Addr) (m c : Nat) (bs : List UInt8) (er : Int) (l : List UInt8) (e : Ending) (w' : World) : Prop :=
  e = .returned (.tuple #[]) ∧ CK w0 w' w'.heap.size p A m c bs er l ∧ (∀ q t cs, B ≤ q → Blk w q t cs → Blk w' q t cs) ∧ w.heap.size ≤ w'.heap.size
theorem CK.op (h : CK w0 w B p A m c bs er l) {bs' : List UInt8} {er' : Int} {f : Nat} {args : Array Value} (hc : ∀ ob, IsW w p ob bs er → (∀ k ∈ ob, w0.heap.size ≤ k ∧ k < B) → w0.heap.size ≤ p → p < B → Calls Try.prog f args w (WOut w p ob bs' er')) :
    Calls Try.prog f args w (CKP w0 w B p A m c bs' er' l) := by
  obtain ⟨⟨ob, hw, hb, ho⟩, own, pB⟩ := h
  refine (hw.op (hc ob hw.is_ (fun k hk => ⟨(hw.obs k hk).1, hb k hk⟩) hw.new_ pB)).mono ?_
  rintro e w' ⟨rfl, ob', hw', hk, hf⟩
  have hA : ∀ k, (Value.slice A m c).ownBlock = some k → k ∉ p :: ob := fun k hk' hm => by
    rcases List.mem_cons.1 hm with h1 | h1
    · exact (ho k hk').1 h1
    · exact (ho k hk').2 h1
  refine ⟨rfl, ⟨⟨ob', hw', fun k hk => (hw'.obs k hk).2, fun k hk' => ⟨(ho k hk').1, fun hm => ?_⟩⟩, own_fr own hf hA, hw'.lt⟩, fun q t cs hq hbk => hbk.fr hf (fun hm => ?_), hf.size⟩
  · rcases hk k hm with h1 | h1
    · exact (ho k hk').2 h1
    · have := (own.lt k hk').2; omega
  · rcases List.mem_cons.1 hm with h1 | h1
    · omega
    · have := hb q h1; omega

theorem CK.grow (h : CK w0 w B p A m c bs er l) {A' : Option Addr} {c' n : Nat} {l' : List UInt8} {w' : World}
    (ho : w'.ownsRow w0.heap.size 5 1 (.slice A' n c') n (u8s l')) (hf : Fr (Value.slice A m c).ownBlock.toList w w')
    (hb : (Value.slice A' n c').ownBlock = (Value.slice A m c).ownBlock ∨ (Value.slice A' n c').ownBlock = some w.heap.size) : CK w0 w' w'.heap.size p A' n c' bs er l' := by
  obtain ⟨⟨ob, hw, _, hd⟩, own, pB⟩ := h
  have hp : p ∉ (Value.slice A m c).ownBlock.toList := fun hm => by simp only [Option.mem_toList] at hm; exact (hd p hm).1 rfl
  have hob : ∀ k ∈ ob, k ∉ (Value.slice A m c).ownBlock.toList := fun k hk hm => by simp only [Option.mem_toList] at hm; exact (hd k hm).2 hk
  have h0 : ∀ x ∈ (Value.slice A m c).ownBlock.toList, w0.heap.size ≤ x := fun x hx => by simp only [Option.mem_toList] at hx; exact (own.lt x hx).1
  have hw' := hw.fr hf hp hob h0
  refine ⟨⟨ob, hw', fun k hk => (hw'.obs k hk).2, fun k hk => ?_⟩, ho, hw'.lt⟩
  rcases hb with hb | hb
  · exact hd k (by rw [← hb]; exact hk)
  · rw [hb] at hk
    cases hk
    have := hw.lt
    exact ⟨by omega, fun hm => by have := (hw.obs _ hm).2; omega⟩

/-- all = append(all, ..) -/
theorem wpList_appCK {ops : Array Oper} {rest : List Oper} {o : Oper} {a : Act} {Q : Exit → Act → World → Prop} (hgd : o.guard = none) (s x : Operand)
    (ho : o.op = .call { callee := .builtin .append, args := #[s, x], argTypes := #[22, 22] })
    (hs : a.eval s = .slice A m c) (h : CK w0 w B p A m c bs er l)
    (A2 : Option Addr) (m2 c2 : Nat) (l2 : List UInt8) (hx : a.eval x = .slice A2 m2 c2) (hl : l2.length = m2) (hr : Rd w A2 l2) (hbd : m + m2 ≤ 1000000000)
    (hk : ∀ A' c' w', CK w0 w' w'.heap.size p A' (m + m2) c' bs er (l ++ l2) → wpList Try.prog ops Q rest (a.put o.dst (.slice A' (m + m2) c')) w') :
    wpList Try.prog ops Q (o :: rest) a w := by
  refine wpList_appU8 hgd s x ho w0.heap.size _ m l hs h.own A2 m2 c2 l2 hx hl hr hbd h.fr_.size ?_
  intro A' c' w' ho' hf hb
  exact hk A' c' w' (h.grow ho' hf hb)
theorem step_appCK {ops : Array Oper} {o : Oper} {a : Act} {K : Act → World → Prop} {Q : Exit → Act → World → Prop} {E : Prop} (hgd : o.guard = none) (s x : Operand)
    (ho : o.op = .call { callee := .builtin .append, args := #[s, x], argTypes := #[22, 22] })
    (hs : a.eval s = .slice A m c) (h : CK w0 w B p A m c bs er l)
    (A2 : Option Addr) (m2 c2 : Nat) (l2 : List UInt8) (hx : a.eval x = .slice A2 m2 c2) (hl : l2.length = m2) (hr : Rd w A2 l2) (hbd : m + m2 ≤ 1000000000)
    (hk : ∀ A' c' w', CK w0 w' w'.heap.size p A' (m + m2) c' bs er (l ++ l2) → K (a.put o.dst (.slice A' (m + m2) c')) w') :
    if Region.wanted o (yielded ops a.tmps) = true then Oper.wp Try.prog o a w K Q else E := by
  refine step_appU8 hgd s x ho w0.heap.size _ m l hs h.own A2 m2 c2 l2 hx hl hr hbd h.fr_.size ?_
  intro A' c' w' ho' hf hb
  exact hk A' c' w' (h.grow ho' hf hb)

theorem CK.new {w0 w : World} (h : Fr [] w0 w) : CK w0 (w.alloc (.cells #[.slice none 0 0, .int .i64 0] 27)) (w.heap.size + 1) w.heap.size none 0 0 [] 0 [] :=
  ⟨⟨[], Wr.new h, by simp, by simp [Value.ownBlock]⟩, World.ownsRow_nil _ _ _ _, by omega⟩

/-- the law's parts as they come in -/
structure CPart where
  kind : UInt8
  x : UInt8
  n : Int
  v : Int
  bA : Option Addr
  bC : Nat
  b : List UInt8
  d : List UInt8
  rA : Option Addr
  rC : Nat
  r : List Int
  most : Int

def I64 (n : Int) : Prop := -9223372036854775808 ≤ n ∧ n ≤ 9223372036854775807
def CPart.cells (o : CPart) : List Value :=
  [.int .u8 (o.kind.toNat : Int), .int .u8 (o.x.toNat : Int), .int .i64 o.n, .int .i64 o.v, .slice o.bA o.b.length o.bC] ++ u8s o.d ++ [.slice o.rA o.r.length o.rC, .int .i64 o.most]
structure PartAt (w : World) (b off : Nat) (o : CPart) : Prop where
  cs : ∀ j v, o.cells[j]? = some v → w.cell? ⟨b, off + j, none⟩ = some v
  dl : o.d.length = 32
  hn : I64 o.n
  hv : I64 o.v
  hm : I64 o.most
  hb : Rd w o.bA o.b
  hr : RdI w o.rA o.r
  hri : ∀ x ∈ o.r, -9223372036854775808 ≤ x ∧ x ≤ 9223372036854775807
def PartsIn (w : World) (A : Option Addr) (l : List CPart) : Prop :=
  ∀ j o, l[j]? = some o → ∃ b off, A = some ⟨b, off, none⟩ ∧ b < w.heap.size ∧ PartAt w b (off + j * 39) o
theorem CPart.cells_length {o : CPart} (h : o.d.length = 32) : o.cells.length = 39 := by simp [CPart.cells, h]
theorem wpList_store_box {P : Program} {ops : Array Oper} {rest : List Oper} {o : Oper} {a : Act} {Q : Exit → Act → World → Prop} (hgd : o.guard = none) (ty : TypeId) (x y : Operand) (ho : o.op = .store ty x y)
    (wr : World) (Z cs : List Value) (hw : w = wr.alloc (.cells Z.toArray ty)) (hx : a.eval x = .pointer (some ⟨wr.heap.size, 0, none⟩)) (hy : a.eval y = .agg cs.toArray) (hZ : cs.length = Z.length) (h1 : ∀ v ∈ cs, v.oneCell' = true)
    (hi : (P.info? ty).map (·.size) = some cs.length)
    (h : ∀ wa, Blk wa wr.heap.size ty cs.toArray → Fr [] wr wa → wpList P ops Q rest (a.put o.dst undef) wa) : wpList P ops Q (o :: rest) a w := by
  subst hw
  have hb := Blk.new wr ty Z.toArray
  refine wpList_store_agg hgd ty x y ho wr.heap.size 0 hx cs hy Z ty hb (by omega) h1 hi (h _ ?_ (((Fr.refl [] wr).alloc _).setRow (.inr (Nat.le_refl _)) _))
  have e : splice Z 0 cs = cs := by simp [splice, hZ]
  rw [e]
  exact hb.setRow_ _
theorem CPart.one {o : CPart} : ∀ v ∈ o.cells, v.oneCell' = true := by
  intro v hv
  simp only [CPart.cells, List.mem_append, List.mem_cons, List.not_mem_nil, or_false] at hv
  rcases hv with ((rfl | rfl | rfl | rfl | rfl) | hv) | rfl | rfl
  all_goals first | rfl | exact u8s_one _ v hv
def partZ : List Value := [.int .u8 0, .int .u8 0, .int .i64 0, .int .i64 0, .slice none 0 0] ++ List.replicate 32 (.int .u8 0) ++ [.slice none 0 0, .int .i64 0]
theorem partZ_zero : (Try.prog.info? 42).map (·.zero) = some (some (.agg partZ.toArray)) := by kernel_rfl
theorem part_size : (Try.prog.info? 42).map (·.size) = some 39 := by kernel_rfl
theorem dig_size : (Try.prog.info? 38).map (·.size) = some 32 := by kernel_rfl
def OkW (bad : Bool) (er : Int) (bs la : List UInt8) : Prop := (bad = true ∧ er = 10) ∨ (bad = false ∧ er = 0 ∧ bs = la)
theorem OkW.app {bad : Bool} {er : Int} {bs la : List UInt8} (h : OkW bad er bs la) (x : List UInt8) : OkW bad er (bs ++ x) (la ++ x) := by
  rcases h with h | ⟨h1, h2, rfl⟩
  · exact .inl h
  · exact .inr ⟨h1, h2, rfl⟩
theorem OkW.part {bad : Bool} {er : Int} {bs la : List UInt8} (h : OkW bad er bs la) (g : Prop) [Decidable g] (x y : List UInt8) (hxy : g → x = y) : OkW (bad || !decide g) (if g then er else 10) (if g then bs ++ x else bs) (la ++ y) := by
  by_cases hg : g
  · simp only [hg, if_true, decide_true, Bool.not_true, Bool.or_false]
    rw [← hxy hg]
    exact h.app x
  · simp only [hg, if_false, decide_false, Bool.not_false, Bool.or_true]
    exact .inl ⟨rfl, rfl⟩

theorem rd_one (w : World) (x : UInt8) : Rd (w.alloc (.cells #[.int .u8 (x.toNat : Int)] 5)) (some ⟨w.heap.size, 0, none⟩) [x] :=
  rd_cells (l := [x]) (Blk.new w 5 (u8s [x]).toArray)

theorem cnt_any (h : CK w0 w B p A m c bs er l) (n : Int) (hn : I64 n) (hbd : bs.length + 3 ≤ 1000000000) :
    Calls Try.prog 17 #[.pointer (some ⟨p, 0, none⟩), .int .i64 n] w (CKP w0 w B p A m c (if 0 ≤ n ∧ n ≤ 1048576 then bs ++ cntL n else bs) (if 0 ≤ n ∧ n ≤ 1048576 then er else 10) l) := by
  by_cases hg : 0 ≤ n ∧ n ≤ 1048576
  · rw [if_pos hg, if_pos hg]
    obtain ⟨k, rfl⟩ := Int.eq_ofNat_of_zero_le hg.1
    have hk : k ≤ 1048576 := by omega
    rw [show cntL ((k : Nat) : Int) = countB k from cntL_nat k hk]
    exact h.op (fun ob hi _ _ _ => count_yes w p ob bs er hi k hk hbd)
  · rw [if_neg hg, if_neg hg]
    exact h.op (fun ob hi _ _ _ => count_no w p ob bs er hi n (by omega) hn.1 hn.2)
theorem RdI.blk_lt' {w : World} {A : Option Addr} {l : List Int} (h : RdI w A l) : 0 < l.length → ∀ b off, A = some ⟨b, off, none⟩ → b < w.heap.size := fun hl b off hA => by
  subst hA
  obtain ⟨b', off', he, hx⟩ := h hl
  injection he with he
  injection he with h1 h2 _
  subst h1 h2
  have := hx 0 l[0] (by simp)
  exact World.block_lt_of_cell? _ _ this
theorem row_any (h : CK w0 w B p A m c bs er l) (RA : Option Addr) (rc : Nat) (r : List Int) (hr : RdI w0 RA r) (hrb : ∀ x ∈ r, -9223372036854775808 ≤ x ∧ x ≤ 9223372036854775807) (hn : r.length ≤ 400) (hbd : bs.length + 4000 ≤ 1000000000) :
    Calls Try.prog 20 #[.pointer (some ⟨p, 0, none⟩), .slice RA r.length rc] w (CKP w0 w B p A m c (if r.length ≤ 255 then bs ++ rowB r else bs) (if r.length ≤ 255 then er else 10) l) := by
  have hfs := h.fr_
  have hs := hfs.size
  by_cases hg : r.length ≤ 255
  · rw [if_pos hg, if_pos hg]
    exact h.op (fun ob hi hob hp _ => row_yes w p ob bs er hi RA rc r (hr.fr hfs (by simp)) hrb (fun hl b off hb => by
      have := hr.blk_lt' hl b off hb
      exact ⟨by omega, fun hm => by have := (hob b hm).1; omega, by omega⟩) hg (by omega))
  · rw [if_neg hg, if_neg hg]
    exact h.op (fun ob hi _ _ _ => row_no w p ob bs er hi RA r.length rc (by omega))
theorem text_any (h : CK w0 w B p A m c bs er l) (RA : Option Addr) (rc : Nat) (r : List UInt8) (hr : Rd w0 RA r) (hn : r.length ≤ 1000) (hbd : bs.length + 4000 ≤ 1000000000) :
    Calls Try.prog 8 #[.pointer (some ⟨p, 0, none⟩), .slice RA r.length rc] w (CKP w0 w B p A m c (bs ++ (countB r.length ++ r)) er l) := by
  have hfs := h.fr_
  have hs := hfs.size
  exact h.op (fun ob hi hob hp _ => text_calls w p ob bs er hi RA r.length rc r rfl (hr.fr hfs (by simp)) (fun hl b off hb => by
      have := hr.blk_lt hl b off hb
      exact ⟨by omega, fun hm => by have := (hob b hm).1; omega, by omega⟩) (by omega) (by omega))
theorem countB_length (n : Nat) : (countB n).length = 3 := rfl
theorem cntL_length (n : Int) : (cntL n).length = 3 := rfl
theorem rowB_length (r : List Int) : (rowB r).length = 1 + 8 * r.length := by unfold rowB; rw [List.length_cons, nums_length]; omega
theorem CK.err (h : CK w0 w B p A m c bs er l) : Calls Try.prog 22 #[.pointer (some ⟨p, 0, none⟩)] w fun e w' => e = .returned (.int .i64 er) ∧ w = w' := by
  obtain ⟨ob, hw, _⟩ := h.ex
  exact err_calls w p ob bs er hw.is_
def BytesN (wc : World) (e : Ending) (w' : World) : Prop := ∃ A c, e = .returned (.slice A 0 c) ∧ Hid (Fr [] wc w')
theorem CK.bytes10 (h : CK w0 w B p A m c bs er l) (he : er = 10) (hbd : bs.length ≤ 1000000000) (wc : World) (hf : Fr [] wc w) : Calls Try.prog 9 #[.pointer (some ⟨p, 0, none⟩)] w (BytesN wc) := by
  obtain ⟨ob, hw, _⟩ := h.ex
  refine (bytes_calls w p ob bs er hw.is_ hbd).mono ?_
  rw [if_neg (by omega)]
  rintro e w' ⟨A', c', rfl, _, h2⟩
  exact ⟨A', c', rfl, Lib.hid (hf.trans h2)⟩
theorem CK.conv (h : CK w0 w B p A m c bs er l) : (convert 22 9 (.slice A m c)).run Try.prog w = .ok (.string (str l)) w := conv_n h.len (OwnN.rdd h.own)
def BytesY (wc : World) (A : Option Addr) (m c : Nat) (l : List UInt8) (e : Ending) (w' : World) : Prop := ∃ A' c', e = .returned (.slice A' m c') ∧ (convert 22 9 (.slice A' m c')).run Try.prog w' = .ok (.string (str l)) w' ∧ (convert 22 9 (.slice A m c)).run Try.prog w' = .ok (.string (str l)) w' ∧ Hid (Fr [] wc w')
theorem CK.bytes0 (h : CK w0 w B p A m c l 0 l) (hbd : m ≤ 1000000000) (wc : World) (hf : Fr [] wc w) : Calls Try.prog 9 #[.pointer (some ⟨p, 0, none⟩)] w (BytesY wc A m c l) := by
  obtain ⟨ob, hw, _⟩ := h.ex
  refine (bytes_ok w p ob l hw.is_ m h.len hbd).mono ?_
  rintro e w' ⟨A', c', rfl, _, h2, _, _, hf2⟩
  exact ⟨A', c', rfl, conv_n h.len h2, (h.fr0 hf2).conv, Lib.hid (hf.trans hf2)⟩
end Go.Proofs.Ytaclinojbifkbaa
