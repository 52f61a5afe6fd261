/- Digests are compared. -/
import Derived.Test.YtmgbimdebhhckaaShaH
import Derived.Stop.BytesEq
namespace Go.Proofs.Ytmgbimdebhhckaa
open Go.RowKit

theorem size_of_u8 (w : World) : (sizeOf 5).run Try.prog w = .ok 1 w := by
  have h := size_u8
  cases hq : Try.prog.info? 5 with
  | none => simp [hq] at h
  | some i =>
    have hs : i.size = 1 := by simpa [hq] using h
    simp [sizeOf, typeInfo, hq, hs]
theorem eq_dig (w : World) (xs ys : List UInt8) (hx : xs.length = 32) (hy : ys.length = 32) :
    (Op.equalIn 10000 25 (.agg (u8s xs).toArray) (.agg (u8s ys).toArray)).run Try.prog w = .ok (xs == ys) w :=
  run_equalIn_bytes w 9998 25 5 32 Try.underlying25 Try.underlying5 size_of_u8 xs ys hx hy
theorem dig_guard' : Try.prog.eqGuardType Try.prog.depth 25 = false := by kernel_rfl
theorem ex_neq_dig {a : Act} {o : Oper} {x y : Operand} {yt : TypeId} (w : World) (ho : o.op = .binOp .neq 25 x y yt) (xs ys : List UInt8) (h1 : a.eval x = .agg (u8s xs).toArray) (h2 : a.eval y = .agg (u8s ys).toArray) (hx : xs.length = 32) (hy : ys.length = 32) :
    (execOp a.eval o).run Try.prog w = .ok (.value (.bool (!(xs == ys)))) w := by
  unfold execOp
  simp [ho, h1, h2, Sem.run_bind, run_eqGuard_agg w .neq 25 x y _ _ dig_guard', run_neq_struct, eq_dig w xs ys hx hy]
theorem ex_eql_dig {a : Act} {o : Oper} {x y : Operand} {yt : TypeId} (w : World) (ho : o.op = .binOp .eql 25 x y yt) (xs ys : List UInt8) (h1 : a.eval x = .agg (u8s xs).toArray) (h2 : a.eval y = .agg (u8s ys).toArray) (hx : xs.length = 32) (hy : ys.length = 32) :
    (execOp a.eval o).run Try.prog w = .ok (.value (.bool (xs == ys))) w := by
  unfold execOp
  simp [ho, h1, h2, Sem.run_bind, run_eqGuard_agg w .eql 25 x y _ _ dig_guard', run_eql_struct, eq_dig w xs ys hx hy]
end Go.Proofs.Ytmgbimdebhhckaa
