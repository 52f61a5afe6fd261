/- Two texts clash. -/
import Derived.Test.YtgjcnmlfoagnpaaShaJ
import Derived.Test.YtgjcnmlfoagnpaaDig2
import Derived.Test.YtgjcnmlfoagnpaaRefB
import Derived.Test.YtgjcnmlfoagnpaaSeq2
namespace Go.Proofs.Ytgjcnmlfoagnpaa
open Go.RowKit
set_option linter.unusedVariables false

def clB (a b : List UInt8) : Bool := !(a == b) && (shaB a == shaB b)
theorem clB_same (a : List UInt8) : clB a a = false := by simp [clB]
set_option maxHeartbeats 2000000 in
theorem clash_calls (w : World) (A : Option Addr) (n c : Nat) (la : List UInt8) (hn : la.length = n) (hA : Rd w A la) (B : Option Addr) (m d : Nat) (lb : List UInt8) (hm : lb.length = m) (hB : Rd w B lb) (hb1 : n ≤ 100000000) (hb2 : m ≤ 100000000) :
    Calls Try.prog 18 #[.slice A n c, .slice B m d] w (QuietS (.bool (clB la lb)) w) := by
  have hcA := run_conv_str (P := Try.prog) (w := w) (src := 22) (dst := 9) Try.underlying22 Try.underlying5 Try.underlying9 hA c
  have hcB := run_conv_str (P := Try.prog) (w := w) (src := 22) (dst := 9) Try.underlying22 Try.underlying5 Try.underlying9 hB d
  rw [hn] at hcA
  rw [hm] at hcB
  have hst := str_toList
  have HA := Lib.hid hA; have HB := Lib.hid hB; have HN := Lib.hid hn; have HM := Lib.hid hm
  clear hA hB hn hm
  by_cases h : la = lb
  · have hab : (la == lb) = true := by simpa using h
    have HX := Lib.hid (show clB la lb = false by rw [h, clB_same])
    clear h
    go_enter Try.func18, Try.ntmps18
    go_wp2_with fail
    go_ret
    rw [HX.out]
    exact ⟨rfl, Fr.refl _ _⟩
  · have hab : (la == lb) = false := by simpa using h
    have HX := Lib.hid (show clB la lb = (shaB la == shaB lb) by unfold clB; rw [hab]; rfl)
    have HSA := Lib.hid (sum_calls w A n c la HN.out HA.out hb1)
    have hgd := dig_guard'
    have heq := fun w' : World => eq_dig w' (shaB la) (shaB lb) (shaB_length la) (shaB_length lb)
    clear h
    go_enter Try.func18, Try.ntmps18
    go_wp2_with (first
      | (go_at_call 9; (with_reducible refine HSA.out.mono ?_); rintro e w1 ⟨rfl, f1⟩; have F1 := Lib.hid f1; have HSB := Lib.hid (sum_calls w1 B m d lb HM.out (HB.out.fr f1 (by simp)) hb2); clear f1 HSA)
      | (go_at_call 9; (with_reducible refine HSB.out.mono ?_); rintro e w2 ⟨rfl, f2⟩; have F2 := Lib.hid (F1.out.trans f2); clear f2))
    go_ret
    rw [HX.out]
    exact ⟨rfl, F2.out⟩
theorem ex_neq_str {P : Program} {a : Act} {o : Oper} {w : World} {x y : Operand} {t yt : TypeId} {la lb : List UInt8} {v : Bool} (ho : o.op = .binOp .neq t x y yt) (h1 : a.eval x = .string (str la)) (h2 : a.eval y = .string (str lb)) (hv : (la == lb) = !v) :
    (execOp a.eval o).run P w = .ok (.value (.bool v)) w := by
  unfold execOp
  simp [ho, h1, h2, eqGuard, binOp, Op.stringOp, str_toList, hv]
end Go.Proofs.Ytgjcnmlfoagnpaa
