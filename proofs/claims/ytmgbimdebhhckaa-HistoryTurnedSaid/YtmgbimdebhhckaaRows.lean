/-
  No cell of these rows narrows 'for every input' (looked for: loops, veiled, ifaces, maps, wideKeys, modest, calm, conditions, laid).
  DERIVED. THE GIVEN ROWS OF THIS SEAT. 3 by the template 'for every input the law returns true; each argument reads behind the call as it read before'; 0 by the template 'total and deterministic' (their statements: YtmgbimdebhhckaaTotals.lean).
  GIVEN WITH THE SEED: the statements are not yours to turn. If you find one false, say at which input.
  Laid BY PROGRAM, IN A SANDBOX (cutbox-rows.mjs): the forced cells as the released guide's own fill.sh prints them over the translation 3dc381fdca8c6470… (all of the seat's roots in one cut). By AI agents, Wed Nov 11 2026. No macro, syntax, notation, axiom, sorry.
-/
import Derived.Test.YtmgbimdebhhckaaChecked
import GoSem.Claim
import GoSem.ClaimJoined
import GoSem.ClaimMapViews
import Derived.JoinedTies
import Derived.KernelRfl
namespace Go.Proofs.Ytmgbimdebhhckaa
/- THE CELL 'sum', in the pinned program and in every row, IS THE sha256 OF THE DUMP (.gsa) THAT YtmgbimdebhhckaaProg.lean LOADS. Nothing in Lean hashes anything: it is a label: what it is worth is what the hold of that sum in a sandbox is worth. -/
noncomputable def Try.pinned : Pinned := { name := "ytmgbimdebhhckaa", sum := "3dc381fdca8c647043294e45406a867146203174ab481982951e501721171541", checked := Try.checked }
namespace Rows
def none {H : Type} : Left H := { results := [], args := [] }

/-- 'indenturelaw18.HistoryProofs': WHATEVER THE INPUT: true; the input reads as it did. -/
def historyProofsSpec : ChangeSpec := { name := "historyProofs", fn := fun _ => fun
  | [d1, d2, d3] => { results := [.lit (.bool true)], args := [d1, d2, d3] }
  | _ => none }
def historyProofsRow : OpenClaim := { program := "ytmgbimdebhhckaa", sum := "3dc381fdca8c647043294e45406a867146203174ab481982951e501721171541", func := "indenture/indenturelaw18.HistoryProofs", spec := "historyProofs", recurses := true, apart := false }
def HistoryProofsSaid : Prop := historyProofsRow.holds Try.pinned (OpenSpec.ofChange historyProofsSpec)

/-- ITS FALSE NEIGHBOUR: 'it returns false'. Refute it at one input. -/
def historyProofsWrong : ChangeSpec := { name := "historyProofs", fn := fun _ => fun
  | [d1, d2, d3] => { results := [.lit (.bool false)], args := [d1, d2, d3] }
  | _ => none }
def HistoryProofsWrongFalsely : Prop := historyProofsRow.holds Try.pinned (OpenSpec.ofChange historyProofsWrong)

/-- 'indenturelaw18.HistoryTurned': WHATEVER THE INPUT: true; the input reads as it did. -/
def historyTurnedSpec : ChangeSpec := { name := "historyTurned", fn := fun _ => fun
  | [d1, d2, d3, d4, d5] => { results := [.lit (.bool true)], args := [d1, d2, d3, d4, d5] }
  | _ => none }
def historyTurnedRow : OpenClaim := { program := "ytmgbimdebhhckaa", sum := "3dc381fdca8c647043294e45406a867146203174ab481982951e501721171541", func := "indenture/indenturelaw18.HistoryTurned", spec := "historyTurned", recurses := true, apart := false }
def HistoryTurnedSaid : Prop := historyTurnedRow.holds Try.pinned (OpenSpec.ofChange historyTurnedSpec)

/-- ITS FALSE NEIGHBOUR: 'it returns false'. Refute it at one input. -/
def historyTurnedWrong : ChangeSpec := { name := "historyTurned", fn := fun _ => fun
  | [d1, d2, d3, d4, d5] => { results := [.lit (.bool false)], args := [d1, d2, d3, d4, d5] }
  | _ => none }
def HistoryTurnedWrongFalsely : Prop := historyTurnedRow.holds Try.pinned (OpenSpec.ofChange historyTurnedWrong)

/-- 'indenturelaw18.HistoryBinds': WHATEVER THE INPUT: true; the input reads as it did. -/
def historyBindsSpec : ChangeSpec := { name := "historyBinds", fn := fun _ => fun
  | [d1, d2, d3, d4, d5, d6, d7, d8, d9, d10] => { results := [.lit (.bool true)], args := [d1, d2, d3, d4, d5, d6, d7, d8, d9, d10] }
  | _ => none }
def historyBindsRow : OpenClaim := { program := "ytmgbimdebhhckaa", sum := "3dc381fdca8c647043294e45406a867146203174ab481982951e501721171541", func := "indenture/indenturelaw18.HistoryBinds", spec := "historyBinds", recurses := true, apart := false }
def HistoryBindsSaid : Prop := historyBindsRow.holds Try.pinned (OpenSpec.ofChange historyBindsSpec)

/-- ITS FALSE NEIGHBOUR: 'it returns false'. Refute it at one input. -/
def historyBindsWrong : ChangeSpec := { name := "historyBinds", fn := fun _ => fun
  | [d1, d2, d3, d4, d5, d6, d7, d8, d9, d10] => { results := [.lit (.bool false)], args := [d1, d2, d3, d4, d5, d6, d7, d8, d9, d10] }
  | _ => none }
def HistoryBindsWrongFalsely : Prop := historyBindsRow.holds Try.pinned (OpenSpec.ofChange historyBindsWrong)

/- THE SECOND FORM. 'bulk': how many values and letters a reading holds, each counted each time it is reached (what is shared counts as often as it is met; a slice's spare places count too). A statement '..UptoSaid' is the law's where the arguments, and the package variables that the reading takes, are together of bulk at most 1048576: NARROWER than '..Said'. Prove '..Said' where nothing that the law and all that it calls make is longer than what came in: it says more and counts as full. Else prove '..UptoSaid'. A law counts once. -/
mutual
def uptoBulk {H : Type} : DataW H → Nat
  | .lit (.string bytes) => bytes.length + 1
  | .lit _ => 1
  | .nil => 1
  | .ptr d => uptoBulk d + 1
  | .slice elems spare => uptoBulkAll elems + uptoBulkAll spare + 1
  | .agg parts => uptoBulkAll parts + 1
  | .iface _ d => uptoBulk d + 1
  | .map entries => uptoBulkEntries entries + 1
  | .held _ => 1
def uptoBulkAll {H : Type} : List (DataW H) → Nat
  | [] => 0
  | d :: r => uptoBulk d + uptoBulkAll r
def uptoBulkEntries {H : Type} : List (Lit × DataW H) → Nat
  | [] => 0
  | x :: r => uptoBulkEntry x + uptoBulkEntries r
def uptoBulkEntry {H : Type} : Lit × DataW H → Nat
  | (.string bytes, d) => bytes.length + uptoBulk d + 1
  | (_, d) => uptoBulk d + 1
 end
def uptoSmall : (H : Type) → List (DataW H) → Bool := fun _ ds => decide (uptoBulkAll ds ≤ 1048576)
def OpenSpec.upto (s : _root_.Go.ChangeSpec) : _root_.Go.OpenSpec := { _root_.Go.OpenSpec.ofChange s with cond := some uptoSmall }

/-- 'indenturelaw18.HistoryProofs', WHERE WHAT IT READS IS OF BULK AT MOST 1048576: true; the input reads as it did. -/
def historyProofsUptoRow : OpenClaim := { program := "ytmgbimdebhhckaa", sum := "3dc381fdca8c647043294e45406a867146203174ab481982951e501721171541", func := "indenture/indenturelaw18.HistoryProofs", spec := "historyProofs", recurses := true, apart := false, narrowed := true }
def HistoryProofsUptoSaid : Prop := historyProofsUptoRow.holds Try.pinned (OpenSpec.upto historyProofsSpec)

/-- 'indenturelaw18.HistoryTurned', WHERE WHAT IT READS IS OF BULK AT MOST 1048576: true; the input reads as it did. -/
def historyTurnedUptoRow : OpenClaim := { program := "ytmgbimdebhhckaa", sum := "3dc381fdca8c647043294e45406a867146203174ab481982951e501721171541", func := "indenture/indenturelaw18.HistoryTurned", spec := "historyTurned", recurses := true, apart := false, narrowed := true }
def HistoryTurnedUptoSaid : Prop := historyTurnedUptoRow.holds Try.pinned (OpenSpec.upto historyTurnedSpec)

/-- 'indenturelaw18.HistoryBinds', WHERE WHAT IT READS IS OF BULK AT MOST 1048576: true; the input reads as it did. -/
def historyBindsUptoRow : OpenClaim := { program := "ytmgbimdebhhckaa", sum := "3dc381fdca8c647043294e45406a867146203174ab481982951e501721171541", func := "indenture/indenturelaw18.HistoryBinds", spec := "historyBinds", recurses := true, apart := false, narrowed := true }
def HistoryBindsUptoSaid : Prop := historyBindsUptoRow.holds Try.pinned (OpenSpec.upto historyBindsSpec)

end Rows
end Go.Proofs.Ytmgbimdebhhckaa
