/- plays_walk, joined. -/
import Derived.Test.YtccmaeifafcocaaDiskPlaysWD
import Derived.Test.YtccmaeifafcocaaDiskPlaysWP
import Derived.Test.YtccmaeifafcocaaDiskPlaysWR
namespace Go.Proofs.Ytccmaeifafcocaa
open Go.RowKit
theorem plays_walk (w : World) (x : UInt8) (A : Option Addr) (ca : Nat) (l : List DOp) (hA : OpsIn w A l) (hl : l.length ≤ maxLen) : Calls Try.prog 4 #[.int .u8 (x.toNat : Int), .slice A l.length ca] w (Quiet (.bool true) w) :=
  (plays_walk_pack w x A ca l hA hl).run ⟨plays_walk_D w x A ca l hA hl⟩ ⟨plays_walk_P w x A ca l hA hl⟩ ⟨plays_walk_R w x A ca l hA hl⟩
end Go.Proofs.Ytccmaeifafcocaa
