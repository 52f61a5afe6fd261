/- SHA-256: Sum, Preimage, Hash. -/
import Derived.Test.YtmgbimdebhhckaaShaG
namespace Go.Proofs.Ytmgbimdebhhckaa
open Go.RowKit

set_option maxHeartbeats 1000000 in
theorem sum_calls (w : World) (A : Option Addr) (n c : Nat) (l : List UInt8) (hn : l.length = n) (hA : Rd w A l) (hbd : n ≤ 100000000) :
    Calls Try.prog 20 #[.slice A n c] w (Agg (.agg (u8s (shaB l)).toArray) w) := by
  have HB := Lib.hid (Blk.new w 25 (zs 32).toArray)
  have hf0 := (Fr.refl [] w).alloc (.cells (zs 32).toArray 25)
  have HNEW := Lib.hid (new_calls (w.alloc (.cells (zs 32).toArray 25)))
  have HA := Lib.hid (hA.fr hf0 (by simp)); have HF0 := Lib.hid hf0; have HN := Lib.hid hn
  have hl32 := shaB_length l
  have HSP := Lib.hid (splice_32 (shaB l) hl32)
  have HSI := Lib.hid (dig_size (shaB l) hl32)
  have HFT := Lib.hid (show 0 + (u8s (shaB l)).length ≤ (zs 32).length by simp [zs_length, hl32])
  clear hA hf0 hn hl32
  go_enter Try.func20, Try.ntmps20
  go_wp2_with (first
    | (refine wpList_alloc_agg rfl 25 rfl (zs 32).toArray arr32_zero ?_)
    | (go_at_call 35; (with_reducible refine HNEW.out.mono ?_); rintro e w1 ⟨p, rfl, hp, hst, hf1⟩; have HST := Lib.hid hst; have HF1 := Lib.hid hf1; have HP := Lib.hid hp; have HB1 := Lib.hid (HB.out.fr hf1 (by simp)); have HNP := Lib.hid (show w.heap.size ∉ [p] from fun hm => by simp at hm; simp at hp; omega); have HWR := Lib.hid (write_calls w1 p [] none hst A n c l HN.out (HA.out.fr hf1 (by simp)) (by simpa using hbd)); clear hst hf1 hp)
    | (go_at_call 36; (with_reducible refine HWR.out.mono ?_); rintro e w2 ⟨rfl, A2, hst2, _, hf2⟩; have HF2 := Lib.hid hf2; have HB2 := Lib.hid (HB1.out.fr hf2 HNP.out); have HDN := Lib.hid (done_calls w2 p _ A2 hst2); clear hst2 hf2)
    | (go_at_call 37; (with_reducible refine HDN.out.mono ?_); rintro e w3 ⟨rfl, hf3⟩; rw [List.nil_append]; have HF3 := Lib.hid hf3; have HB3 := Lib.hid (HB2.out.fr hf3 (by simp)); clear hf3)
    | (refine wpList_store_agg rfl 25 (.tmp 2) (.tmp 9) rfl w.heap.size 0 rfl (u8s (shaB l)) rfl (zs 32) 25 HB3.out HFT.out (u8s_one _) HSI.out ?_))
  have hb6 := HB3.out.setRow_ (splice (zs 32) 0 (u8s (shaB l))).toArray
  rw [HSP.out] at hb6 ⊢
  refine bodyPost_ret (results_cell_row (p := 2) (ty := 25) rfl _ _ w.heap.size 25 (u8s (shaB l)).toArray (0, 0) _ rfl hb6 Try.underlying25 rfl (by rw [List.size_toArray]; exact HSI.out)) rfl ?_
  have hp := HP.out
  simp at hp
  exact ⟨rfl, ((((HF0.out.trans HF1.out).trans' HF2.out (fun x hx => .inr (by simp at hx; omega))).trans HF3.out)).setRow (.inr (Nat.le_refl _)) _⟩
end Go.Proofs.Ytmgbimdebhhckaa
