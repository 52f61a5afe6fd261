/- The disk's functions: contracts. -/
import Derived.Test.YtccmaeifafcocaaDiskB
namespace Go.Proofs.Ytccmaeifafcocaa
open Go.RowKit

theorem infoU8 : (Try.prog.info? 5).map (fun i => (i.zero, i.size, i.bytes)) = some (some (.int .u8 0), 1, 1) := by kernel_rfl
theorem info58 : (Try.prog.info? 58).map (fun i => (i.zero, i.size, i.bytes)) = some (some (.agg (zs 64).toArray), 64, 64) := by kernel_rfl
theorem size58 : (Try.prog.info? 58).map (·.size) = some 64 := by kernel_rfl
theorem zero58 : (Try.prog.info? 58).map (·.zero) = some (some (.agg (zs 64).toArray)) := by kernel_rfl

theorem fill_step (y : UInt8) (k n : Nat) (hk : k < n) : (u8s (List.replicate k y ++ List.replicate (n - k) 0)).toArray.setIfInBounds k (u8v y) = (u8s (List.replicate (k + 1) y ++ List.replicate (n - (k + 1)) 0)).toArray := by
  apply Array.toList_inj.1
  simp only [Array.toList_setIfInBounds, u8s, List.map_append, List.map_replicate]
  apply List.ext_getElem?
  intro i
  simp only [List.getElem?_set, List.getElem?_append, List.getElem?_replicate, List.length_replicate, List.length_append]
  by_cases h1 : k = i
  · subst h1; simp; omega
  · by_cases h2 : i < k
    · simp [h1, h2, show i < k + 1 by omega]
    · simp [h1, h2, show ¬ i < k + 1 by omega, show i - k < n - k ↔ i - (k + 1) < n - (k + 1) by omega]

/-- A row of n bytes of the value y, new. -/
def NewRow (w : World) (n : Nat) (bs : List UInt8) (e : Ending) (w' : World) : Prop :=
  e = .returned (.slice (some ⟨w.heap.size, 0, none⟩) n n) ∧ Blk w' w.heap.size 5 (u8s bs).toArray ∧ Fr [] w w'

theorem sector_calls (w : World) (y : UInt8) : Calls Try.prog 10 #[.int .u8 (y.toNat : Int)] w (NewRow w 64 (List.replicate 64 y)) := by
  have hmk : ∀ w : World, (Instr.makeSlice 28 (.int .i64 64) (.int .i64 64)).run Try.prog w = .ok (.slice (some ⟨w.heap.size, 0, none⟩) 64 64) (w.alloc (.cells (zs 64).toArray 5)) := fun w => by
    have := run_make_n (P := Try.prog) 28 5 (.int .u8 0) 1 1 Try.underlying28 infoU8 64 (by omega) (by omega) w
    rw [show (Value.int IntKind.u8 0).cells = #[.int .u8 0] from rfl, madeCells_one] at this
    exact this
  go_enter Try.func10, Try.ntmps10
  go_wp2
  go_loopg [4] 64 (fun g i wr => ∃ k : Nat, k ≤ 64 ∧ g = 64 - k ∧ i = .int .i64 k ∧ Blk wr w.heap.size 5 (u8s (List.replicate k y ++ List.replicate (64 - k) 0)).toArray ∧ Fr [] w wr)
  case atStart => exact ⟨0, by omega, by omega, rfl, by simpa [zs] using Blk.new w _ _, (Fr.refl _ _).alloc _⟩
  case round =>
    obtain ⟨k, hk, rfl, rfl, hb, hf⟩ := hrel
    by_cases hlt : k < 64
    · have hc : wr.cell? ⟨w.heap.size, k, none⟩ = some (.int .u8 0) := by
        rw [hb.cell]
        simp [u8s, List.getElem?_append, List.getElem?_replicate]
        omega
      have hz := hb.frozen
      have HB := Lib.hid hb; clear hb
      have HF := Lib.hid hf; clear hf
      go_wp2
      go_roundg (64 - (k + 1))
      case measure => omega
      case rel =>
        have hb2 := HB.out.set_ k (u8v y)
        rw [fill_step y k 64 hlt] at hb2
        exact ⟨k + 1, by omega, rfl, by go_num, hb2, HF.out.setCell (p := ⟨w.heap.size, k, none⟩) (.inr (Nat.le_refl _)) _⟩
    · have : k = 64 := by omega
      subst this
      go_wp2
      go_ret
      exact ⟨rfl, by simpa using hb, hf⟩
end Go.Proofs.Ytccmaeifafcocaa
