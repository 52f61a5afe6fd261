/- Chapter 01: the document's examples. -/
import Derived.Test.YtgjcnmlfoagnpaaShaX
import Derived.Test.YtgjcnmlfoagnpaaShaAbc
import Derived.Lib.SlBytesConst
namespace Go.Proofs.Ytgjcnmlfoagnpaa
open Go.RowKit

def QuietS (v : Value) (w : World) (e : Ending) (w' : World) : Prop := e = .returned v ∧ Fr [] w w'
theorem rd_mark (w : World) (l : List UInt8) (t : TypeId) (fr : Nat × Nat) : Rd (w.alloc (.cells (u8s l).toArray t fr)) (some ⟨w.heap.size, 0, none⟩) l := fun _ => ⟨_, 0, rfl, fun j x hx => by
  rw [World.cell?_alloc_mark, Nat.zero_add, List.getElem?_toArray, u8s_get, hx]; rfl⟩
theorem abc_hex : str (hexB (shaB [97, 98, 99])) = ⟨#[98, 97, 55, 56, 49, 54, 98, 102, 56, 102, 48, 49, 99, 102, 101, 97, 52, 49, 52, 49, 52, 48, 100, 101, 53, 100, 97, 101, 50, 50, 50, 51, 98, 48, 48, 51, 54, 49, 97, 51, 57, 54, 49, 55, 55, 97, 57, 99, 98, 52, 49, 48, 102, 102, 54, 49, 102, 50, 48, 48, 49, 53, 97, 100]⟩ := by
  rw [abc_sum]; kernel_rfl
def aliveP : List UInt8 := [7, 0, 0, 0, 0, 0, 0, 0, 1, 97, 0, 0, 0, 0, 0, 0, 0, 0]
theorem alive_pre : preB 7 [[97], []] = aliveP := by decide +kernel
def AliveP (w : World) (e : Ending) (w' : World) : Prop := ∃ A c, e = .returned (.slice A 18 c) ∧ Fr [] w w' ∧ (convert 22 9 (.slice A 18 c)).run Try.prog w' = .ok (.string ⟨#[7, 0, 0, 0, 0, 0, 0, 0, 1, 97, 0, 0, 0, 0, 0, 0, 0, 0]⟩) w'
theorem alive_p (w : World) : Calls Try.prog 15 #[.int .u8 7, .slice (some ⟨w.heap.size + 1, 0, none⟩) 2 2]
    ((w.alloc (.cells (u8s [97]).toArray 5 (1, 2))).alloc (.cells #[.slice (some ⟨w.heap.size, 0, none⟩) 1 1, .slice none 0 0] 22)) (AliveP w) := by
  have hsz : (w.alloc (.cells (u8s [97]).toArray 5 (1, 2))).heap.size = w.heap.size + 1 := by simp
  have hb := Blk.new (w.alloc (.cells (u8s [97]).toArray 5 (1, 2))) 22 #[.slice (some ⟨w.heap.size, 0, none⟩) 1 1, .slice none 0 0]
  rw [hsz] at hb
  have hf1 := (Fr.refl [] (w.alloc (.cells (u8s [97]).toArray 5 (1, 2)))).alloc (.cells #[.slice (some ⟨w.heap.size, 0, none⟩) 1 1, .slice none 0 0] 22)
  have hf := ((Fr.refl [] w).alloc (.cells (u8s [97]).toArray 5 (1, 2))).alloc (.cells #[.slice (some ⟨w.heap.size, 0, none⟩) 1 1, .slice none 0 0] 22)
  have hr := (rd_mark w [97] 5 (1, 2)).fr hf1 (by simp)
  refine (pre_calls _ 7 (some ⟨w.heap.size + 1, 0, none⟩) 2 2 [[97], []] rfl ?_ (by decide +kernel) (by omega)).mono ?_
  · intro i t ht
    match i with
    | 0 =>
      simp at ht; subst ht
      exact ⟨_, 0, _, 1, rfl, by simp, by rw [hb.cell]; rfl, hr⟩
    | 1 =>
      simp at ht; subst ht
      exact ⟨_, 0, none, 0, rfl, by simp, by rw [hb.cell]; rfl, by simp [Rd]⟩
    | i + 2 => simp at ht
  · rintro e w' ⟨A, c, rfl, ho, hf2⟩
    rw [alive_pre] at ho ⊢
    refine ⟨A, c, rfl, hf.trans hf2, ?_⟩
    exact run_conv_str (P := Try.prog) (w := w') (l := aliveP) (src := 22) (dst := 9) Try.underlying22 Try.underlying5 Try.underlying9 (ownB_rd ho) c
set_option maxHeartbeats 2000000 in
theorem alive_calls (w : World) : Calls Try.prog 8 #[] w (QuietS (.bool true) w) := by
  have hcs := fun (w : World) (C : Array Value) (n c : Nat) => Lib.run_convert_bytes_const (P := Try.prog) w 22 5 C n c Try.underlying22 Try.underlying5
  have HS := Lib.hid (sum_calls (w.alloc (.cells (u8s [97, 98, 99]).toArray 5 (3, 4))) (some ⟨w.heap.size, 0, none⟩) 3 3 [97, 98, 99] rfl (rd_mark w _ _ _) (by omega))
  have HF0 := Lib.hid ((Fr.refl [] w).alloc (.cells (u8s [97, 98, 99]).toArray 5 (3, 4)))
  have HX := Lib.hid (fun w' => hex_calls w' (shaB [97, 98, 99]) (shaB_length _))
  have HE := Lib.hid abc_hex
  go_enter Try.func8, Try.ntmps8
  go_wp2_with (first
    | (go_at_call 9; (refine HS.out.mono ?_); rintro e w1 ⟨rfl, hf1⟩; have HF1 := Lib.hid hf1; clear hf1)
    | (go_at_call 19; (with_reducible refine (HX.out w1).mono ?_); rintro e w2 ⟨rfl, hf2⟩; rw [HE.out]; have HF2 := Lib.hid hf2; clear hf2)
    | (go_at_call 15; (refine (alive_p w2).mono ?_); rintro e w3 ⟨A3, c3, rfl, hf3, hcv⟩; have HF3 := Lib.hid hf3; clear hf3))
  go_ret
  exact ⟨rfl, ((HF0.out.trans HF1.out).trans HF2.out).trans HF3.out⟩
end Go.Proofs.Ytgjcnmlfoagnpaa
