/- SHA-256: the rounds' words, the first words. -/
import Derived.Test.YtmgbimdebhhckaaShaB
namespace Go.Proofs.Ytmgbimdebhhckaa
open Go.RowKit

def Kw : List UInt32 := [1116352408, 1899447441, 3049323471, 3921009573, 961987163, 1508970993, 2453635748, 2870763221,
  3624381080, 310598401, 607225278, 1426881987, 1925078388, 2162078206, 2614888103, 3248222580,
  3835390401, 4022224774, 264347078, 604807628, 770255983, 1249150122, 1555081692, 1996064986,
  2554220882, 2821834349, 2952996808, 3210313671, 3336571891, 3584528711, 113926993, 338241895,
  666307205, 773529912, 1294757372, 1396182291, 1695183700, 1986661051, 2177026350, 2456956037,
  2730485921, 2820302411, 3259730800, 3345764771, 3516065817, 3600352804, 4094571909, 275423344,
  430227734, 506948616, 659060556, 883997877, 958139571, 1322822218, 1537002063, 1747873779,
  1955562222, 2024104815, 2227730452, 2361852424, 2428436474, 2756734187, 3204031479, 3329325298]
def Hw : List UInt32 := [1779033703, 3144134277, 1013904242, 2773480762, 1359893119, 2600822924, 528734635, 1541459225]
def z8 : List Value := List.replicate 8 (.int .u32 0)
theorem arr8_zero : (Try.prog.info? 69).map (·.zero) = some (some (.agg z8.toArray)) := by kernel_rfl
theorem arr8_size : (Try.prog.info? 69).map (·.size) = some 8 := by kernel_rfl

set_option maxHeartbeats 2000000 in
set_option maxRecDepth 100000 in
theorem rounds_calls (w : World) : Calls Try.prog 52 #[] w (Agg (.agg (u32s Kw).toArray) w) := by
  have HB := Lib.hid (Blk.new w 77 z64.toArray)
  have hsp : splice z64 0 (u32s Kw) = u32s Kw := by kernel_rfl
  have HSP := Lib.hid hsp
  clear hsp
  go_enter Try.func52, Try.ntmps52
  go_wp2_with (first
    | (refine wpList_alloc_agg rfl 77 rfl z64.toArray arr64_zero ?_)
    | (refine wpList_store_agg rfl 77 (.tmp 0) (.tmp 1) rfl w.heap.size 0 rfl (u32s Kw) (by kernel_rfl) z64 77 HB.out (by decide) (u32s_one _) (by exact arr64_size) ?_))
  have hb6 := HB.out.setRow_ (splice z64 0 (u32s Kw)).toArray
  rw [HSP.out] at hb6 ⊢
  refine bodyPost_ret (results_cell_row (p := 0) (ty := 77) rfl _ _ w.heap.size 77 (u32s Kw).toArray (0, 0) _ rfl hb6 Try.underlying77 rfl (by exact arr64_size)) rfl ?_
  exact ⟨rfl, ((Fr.refl [] w).alloc _).setRow (.inr (Nat.le_refl _)) _⟩
set_option maxRecDepth 100000 in
theorem begin_calls (w : World) : Calls Try.prog 46 #[] w (Agg (.agg (u32s Hw).toArray) w) := by
  have HB := Lib.hid (Blk.new w 69 z8.toArray)
  have hsp : splice z8 0 (u32s Hw) = u32s Hw := by kernel_rfl
  have HSP := Lib.hid hsp
  clear hsp
  go_enter Try.func46, Try.ntmps46
  go_wp2_with (first
    | (refine wpList_alloc_agg rfl 69 rfl z8.toArray arr8_zero ?_)
    | (refine wpList_store_agg rfl 69 (.tmp 0) (.tmp 1) rfl w.heap.size 0 rfl (u32s Hw) (by kernel_rfl) z8 69 HB.out (by decide) (u32s_one _) (by exact arr8_size) ?_))
  have hb6 := HB.out.setRow_ (splice z8 0 (u32s Hw)).toArray
  rw [HSP.out] at hb6 ⊢
  refine bodyPost_ret (results_cell_row (p := 0) (ty := 69) rfl _ _ w.heap.size 69 (u32s Hw).toArray (0, 0) _ rfl hb6 Try.underlying69 rfl (by exact arr8_size)) rfl ?_
  exact ⟨rfl, ((Fr.refl [] w).alloc _).setRow (.inr (Nat.le_refl _)) _⟩
end Go.Proofs.Ytmgbimdebhhckaa
