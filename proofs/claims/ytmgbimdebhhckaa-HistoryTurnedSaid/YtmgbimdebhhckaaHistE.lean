/- History: slices of digests of the call's own. -/
import Derived.Test.YtmgbimdebhhckaaHistD
import Derived.Great.BuildSlice
namespace Go.Proofs.Ytmgbimdebhhckaa
open Go.RowKit
set_option linter.unusedVariables false

theorem infoDg : (Try.prog.info? 25).map (fun i => (i.zero, i.size, i.bytes)) = some (some (.agg (zs 32).toArray), 32, 32) := by kernel_rfl
/-- '[]api.Digest{r}' -/
theorem run_build_dg (w : World) (r : List UInt8) (hr : r.length = 32) :
    (Instr.buildSlice 22 1 #[(0, .agg (u8s r).toArray)]).run Try.prog w = .ok (.slice (some ⟨w.heap.size, 0, none⟩) 1 1) (w.alloc (.cells (u8s r).toArray 25)) := by
  obtain ⟨i, hi, hz, hs, hb⟩ := info_parts infoDg
  refine run_buildSlice w 22 25 1 _ _ i (.agg (zs 32).toArray) Try.underlying22 hi hz (by rw [hs]; omega) (by rw [hs]; omega) ?_
  rw [hs]
  have h := Great.fill_whole (s := 32) (by omega) [.agg (u8s r).toArray] ((Array.range (1 * 32)).map ((Value.agg (zs 32).toArray).cells[· % (Value.agg (zs 32).toArray).cells.size]!)) (by simp [Value.cells, hr]) (by simp)
  simpa [Value.cells] using h
/-- digests in a row of the call's own -/
def OwnD (w : World) (ps : List (List UInt8)) (e : Ending) (w' : World) : Prop :=
  (∀ p ∈ ps, p.length = 32) ∧ ∃ v, e = .returned v ∧ w'.ownsRow w.heap.size 25 32 v ps.length (ps.flatMap u8s) ∧ Fr [] w w'
theorem rd_digest {w : World} {g : Nat} {t : TypeId} {r : List UInt8} (h : Blk w g t (u8s r).toArray) (hl : 0 < (u8s r).length) : ∃ ad, (some ⟨g, 0, none⟩ : Option Addr) = some ad ∧ ∀ j u, (u8s r)[j]? = some u → w.cell? (ad.add j) = some u :=
  ⟨_, rfl, fun j u hu => by rw [addr_add0, h.cell, Nat.zero_add, List.getElem?_toArray]; exact hu⟩
theorem sq_appDg {Q : Exit → Act → World → Prop} {o : Oper} {a : Act} {w : World} {K : Act → World → Prop} (hgd : o.guard = none) (s x : Operand) (d : Tmp) (hd : o.dst = some d)
    (ho : o.op = .call { callee := .builtin .append, args := #[s, x], argTypes := #[22, 22] })
    (base : Nat) (v : Value) (ps : List (List UInt8)) (hs : a.eval s = v) (hown : w.ownsRow base 25 32 v ps.length (ps.flatMap u8s)) (r : List UInt8) (hr : r.length = 32) (g c : Nat)
    (hx : a.eval x = .slice (some ⟨g, 0, none⟩) 1 c) (hg : Blk w g 25 (u8s r).toArray) (hbd : ps.length ≤ 100000) (hbase : base ≤ w.heap.size)
    (h : ∀ v' w', w'.ownsRow base 25 32 v' (ps ++ [r]).length ((ps ++ [r]).flatMap u8s) → Fr v.ownBlock.toList w w' → K (a.put (some d) v') w') : Oper.wp Try.prog o a w K Q := by
  have hw : Region.wanted o (yielded #[] a.tmps) = true := by simp [Region.wanted, hgd]
  have := step_append (P := Try.prog) (ops := #[]) (K := K) (Q := Q) (E := True) (a := a) (w := w) hw s x 22 ho base 25 (.agg (zs 32).toArray) 32 32 Try.underlying22 infoDg (by simp [Value.cells, zs_length]) (by decide) v ps.length (ps.flatMap u8s) hs hown
    (some ⟨g, 0, none⟩) 1 c (u8s r) hx (by simp [hr]) (fun hl => rd_digest hg hl) (u8s_one _) (by unfold maxLen; omega) (by omega) hbase
    (fun v' w' ho' _ hg' hb => by
      rw [hd]
      refine h v' w' ?_ ((Fr.refl _ _).grown hg' (fun k hk => .inl (by simp [hk])))
      simpa using ho')
  rwa [if_pos hw] at this
end Go.Proofs.Ytmgbimdebhhckaa
