/- Digests are compared; arrays are loaded inside a region. -/
import Derived.Test.YtaclinojbifkbaaReaderE
import Derived.Stop.BytesEq
namespace Go.Proofs.Ytaclinojbifkbaa
open Go.RowKit

theorem sizeOfU8 (w : World) : (sizeOf 5).run Try.prog w = .ok 1 w := by
  have h := sizeU8b
  cases hq : Try.prog.info? 5 with
  | none => simp [hq] at h
  | some i =>
    have hs : i.size = 1 := by simpa [hq] using h
    simp [sizeOf, typeInfo, hq, hs]
theorem run_eq_dig (w : World) (xs ys : List UInt8) (hx : xs.length = 32) (hy : ys.length = 32) :
    (Op.equalIn 10000 38 (.agg (u8s xs).toArray) (.agg (u8s ys).toArray)).run Try.prog w = .ok (xs == ys) w :=
  run_equalIn_bytes w 9998 38 5 32 Try.underlying38 Try.underlying5 sizeOfU8 xs ys hx hy
theorem dig_guard : Try.prog.eqGuardType Try.prog.depth 38 = false := by kernel_rfl
theorem exec_neq_dig {a : Act} {o : Oper} {x y : Operand} {yt : TypeId} (w : World) (ho : o.op = .binOp .neq 38 x y yt) (xs ys : List UInt8) (h1 : a.eval x = .agg (u8s xs).toArray) (h2 : a.eval y = .agg (u8s ys).toArray) (hx : xs.length = 32) (hy : ys.length = 32) :
    (execOp a.eval o).run Try.prog w = .ok (.value (.bool (!(xs == ys)))) w := by
  unfold execOp
  simp [ho, h1, h2, Sem.run_bind, run_eqGuard_agg w .neq 38 x y _ _ dig_guard, run_neq_struct, run_eq_dig w xs ys hx hy]
theorem exec_load_agg {P : Program} {a : Act} {o : Oper} {w : World} (ty : TypeId) (x : Operand) (ho : o.op = .load ty x) (b off : Nat) (hx : a.eval x = .pointer (some ⟨b, off, none⟩))
    (cs : List Value) (d : TypeDesc) (hc : ∀ j v, cs[j]? = some v → w.cell? ⟨b, off + j, none⟩ = some v)
    (hu : P.underlying ty = some d) (hd : (match d with | .struct _ | .array _ _ => true | _ => false) = true) (hi : (P.info? ty).map (·.size) = some cs.length) :
    (execOp a.eval o).run P w = .ok (.value (.agg cs.toArray)) w := by
  unfold execOp
  simp [ho, hx, Instr.loadAt, Instr.sureAddr, run_loadVar_agg w b off ty cs d hc hu hd hi]

section
variable {P : Program} {a : Act} {o : Oper} {w : World} {x y : Operand} {t yt : TypeId}
theorem exec_neq_int {k : IntKind} {n : Int} (ho : o.op = .binOp .neq t x y yt) (h1 : a.eval x = .int k n) (h2 : a.eval y = .int k n) : (execOp a.eval o).run P w = .ok (.value (.bool false)) w := by
  unfold execOp
  simp [ho, h1, h2, eqGuard, binOp, Op.intCmp]
theorem exec_neq_str {b : ByteArray} (ho : o.op = .binOp .neq t x y yt) (h1 : a.eval x = .string b) (h2 : a.eval y = .string b) : (execOp a.eval o).run P w = .ok (.value (.bool false)) w := by
  unfold execOp
  simp [ho, h1, h2, eqGuard, binOp, Op.stringOp]
theorem exec_conv {s : TypeId} {u v : Value} (ho : o.op = .convert s t x) (h1 : a.eval x = u) (h : (convert s t u).run P w = .ok v w) : (execOp a.eval o).run P w = .ok (.value v) w := by
  unfold execOp
  simp [ho, h1, h]
theorem exec_index {u v r : Value} (ho : o.op = .indexAddr t x y) (h1 : a.eval x = u) (h2 : a.eval y = v) (h : (Instr.indexAt t u v).run P w = .ok r w) : (execOp a.eval o).run P w = .ok (.value r) w := by
  unfold execOp
  simp [ho, h1, h2, h]
end
theorem exec_neq_digS {a : Act} {o : Oper} {x y : Operand} {yt : TypeId} (w : World) (ho : o.op = .binOp .neq 38 x y yt) (xs : List UInt8) (h1 : a.eval x = .agg (u8s xs).toArray) (h2 : a.eval y = .agg (u8s xs).toArray) (hx : xs.length = 32) :
    (execOp a.eval o).run Try.prog w = .ok (.value (.bool false)) w := by
  have h := exec_neq_dig w ho xs xs h1 h2 hx hx
  simpa using h
theorem run_isAgg0 {P : Program} {ty : TypeId} {d : TypeDesc} (hu : P.underlying ty = some d) (hd : (match d with | .struct _ | .array _ _ => true | _ => false) = false) (w : World) : (isAgg ty).run P w = .ok false w := by
  unfold isAgg
  rw [Sem.run_bind, run_underlying hu w]
  cases d <;> simp_all
theorem exec_load_cell {P : Program} {a : Act} {o : Oper} {w : World} {v : Value} (ty : TypeId) (x : Operand) (ho : o.op = .load ty x) (p : Addr) (hx : a.eval x = .pointer (some p)) (hc : w.cell? p = some v)
    (d : TypeDesc) (hu : P.underlying ty = some d) (hd : (match d with | .struct _ | .array _ _ => true | _ => false) = false) : (execOp a.eval o).run P w = .ok (.value v) w := by
  unfold execOp
  simp [ho, hx, Instr.loadAt, Instr.sureAddr, loadVar, Sem.run_bind, run_isAgg0 hu hd, hc]
theorem exec_neq_bool {P : Program} {a : Act} {o : Oper} {w : World} {x y : Operand} {t yt : TypeId} {c : Bool} (ho : o.op = .binOp .neq t x y yt) (h1 : a.eval x = .bool c) (h2 : a.eval y = .bool c) (ht : P.underlying t = some .bool) : (execOp a.eval o).run P w = .ok (.value (.bool false)) w := by
  unfold execOp
  simp [ho, h1, h2, eqGuard, binOp, Op.equal, Op.maxDepth, run_equalIn_bool w 9999 t c c ht]
theorem exec_rem2 {P : Program} {a : Act} {o : Oper} {w : World} {x y : Operand} {t yt : TypeId} {n : Int} (ho : o.op = .binOp .rem t x y yt) (h1 : a.eval x = .int .i64 n) (h3 : a.eval y = .int .i64 2) : (execOp a.eval o).run P w = .ok (.value (.int .i64 (n.tmod 2))) w := by
  unfold execOp
  simp [ho, h1, h3, eqGuard, binOp, Op.intDiv]
theorem exec_eql0 {P : Program} {a : Act} {o : Oper} {w : World} {x y : Operand} {t yt : TypeId} {n : Int} {c : Bool} (ho : o.op = .binOp .eql t x y yt) (h1 : a.eval x = .int .i64 n) (h3 : a.eval y = .int .i64 0) (h2 : (n == 0) = c) : (execOp a.eval o).run P w = .ok (.value (.bool c)) w := by
  unfold execOp
  simp [ho, h1, h3, eqGuard, binOp, Op.intCmp, h2]
theorem step_call {P : Program} {ops : Array Oper} {o : Oper} {a : Act} {w : World} {K : Act → World → Prop} {Q : Exit → Act → World → Prop} {E : Prop} {R : Ending → World → Prop} (hw : Region.wanted o (yielded ops a.tmps) = true) (f : FuncId) (args : Array Value)
    (he : (execOp a.eval o).run P w = .ok (.enter f args) w) (hc : Calls P f args w R) (hr : ∀ e w', R e w' → ∃ v, e = .returned v ∧ K (a.put o.dst v) w') :
    if Region.wanted o (yielded ops a.tmps) = true then Oper.wp P o a w K Q else E := by
  rw [if_pos hw]
  unfold Oper.wp
  rw [he, Oper.upon_enter]
  refine hc.mono fun e w' h => ?_
  obtain ⟨v, rfl, hk⟩ := hr e w' h
  exact hk
end Go.Proofs.Ytaclinojbifkbaa
