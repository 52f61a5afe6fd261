/- writes_walk, joined. -/
import Derived.Test.YtaclinojbifkbaaCodecWritesWS
import Derived.Test.YtaclinojbifkbaaCodecWritesWR
namespace Go.Proofs.Ytaclinojbifkbaa
open Go.RowKit
theorem writes_walk (w : World) (A : Option Addr) (ca : Nat) (l : List CPart) (hA : PartsIn w A l) (hl : l.length ≤ maxLen) : Calls Try.prog 5 #[.slice A l.length ca] w (Quiet (.bool true) w) :=
  (writes_walk_pack w A ca l hA hl).run ⟨writes_walk_S w A ca l hA hl⟩ ⟨writes_walk_R w A ca l hA hl⟩
end Go.Proofs.Ytaclinojbifkbaa
