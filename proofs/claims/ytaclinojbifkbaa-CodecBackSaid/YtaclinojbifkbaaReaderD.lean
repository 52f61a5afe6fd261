/- The reader: digests and rows. -/
import Derived.Test.YtaclinojbifkbaaReaderC
import Derived.Test.YtaclinojbifkbaaCodecCK
namespace Go.Proofs.Ytaclinojbifkbaa
open Go.RowKit

def zd : List Value := List.replicate 32 (.int .u8 0)
theorem dig_zero : (Try.prog.info? 38).map (·.zero) = some (some (.agg zd.toArray)) := by kernel_rfl

theorem sizeU8b : (Try.prog.info? 5).map (·.size) = some 1 := by kernel_rfl

theorem rdigest_ok (w : World) (p g : Nat) (d l : List UInt8) (hd : d.length = 32) (h : IsR w p g (d ++ l) 0) (hl : l.length + 32 ≤ 1000000000) :
    Calls Try.prog 28 #[.pointer (some ⟨p, 0, none⟩)] w (RPost w p g (.agg (u8s d).toArray) l 0) := by
  have hf := ((Fr.refl [] w).alloc (.cells zd.toArray 38)).alloc (.cells zd.toArray 38)
  have hp := h.lt
  have hgl : g < w.heap.size := by
    match d, hd, h with
    | x :: d', _, h => exact IsR.glt (l := d' ++ l) h
  have HT : Hid (Calls Try.prog 37 #[.pointer (some ⟨p, 0, none⟩), .int .i64 32] ((w.alloc (.cells zd.toArray 38)).alloc (.cells zd.toArray 38)) (TakeSome ((w.alloc (.cells zd.toArray 38)).alloc (.cells zd.toArray 38)) p g (d ++ l) 32)) := Lib.hid (take_some _ p g _ (h.fr hf (by simp) (by simp)) 32 (by omega) (by simp [hd]) (by simp [hd]; omega))
  have HDL := Lib.hid hd
  have HF := Lib.hid hf
  have HP := Lib.hid (And.intro hp hgl)
  clear hf h hp hd hgl
  go_enter Try.func28, Try.ntmps28
  go_wp2_with (refine wpList_alloc_agg rfl 38 rfl zd.toArray dig_zero ?_)
  refine HT.out.mono ?_
  rintro e w2 ⟨off, c, rfl, hc, hcells, hi, hf⟩
  have ht : (d ++ l).take 32 = d := by rw [← HDL.out]; simp
  have hd : (d ++ l).drop 32 = l := by rw [← HDL.out]; simp
  rw [ht] at hcells; rw [hd] at hi
  have HCE := Lib.hid hcells
  have HI := Lib.hid hi
  have HF2 := Lib.hid hf
  have hb1 := Blk.new (w.alloc (.cells zd.toArray 38)) 38 zd.toArray
  have e1 : (w.alloc (.cells zd.toArray 38)).heap.size = w.heap.size + 1 := by simp
  rw [e1] at hb1
  have HB := Lib.hid (hb1.fr hf (by have := HP.out.1; simp; omega))
  clear ht hd hcells hi hf hb1 e1
  have HU := Lib.hid (show (u8s d).length = 32 by simp [HDL.out])
  have HS : Hid (0 < (u8s d).length → ∃ ad, some (⟨g, off, none⟩ : Addr) = some ad ∧ ∀ j v, (u8s d)[j]? = some v → w2.cell? (ad.add j) = some v) := Lib.hid (fun _ => ⟨_, rfl, fun j v hv => by
    rw [addr_add0]
    rw [u8s_get] at hv
    obtain ⟨x, hx, rfl⟩ := Option.map_eq_some_iff.1 hv
    exact HCE.out j x hx⟩)
  have HZ := Lib.hid (show splice zd 0 (u8s d) = u8s d by simp [splice, HU.out, zd])
  have HRES := Lib.hid (show Blk w2 w.heap.size 38 zd.toArray from (((Blk.new w 38 zd.toArray).alloc _).fr HF2.out (by have := HP.out.1; simp; omega)))
  go_wp2_with (first
    | (refine wpList_copy rfl (.tmp 11) (.tmp 12) 22 22 rfl 5 Try.underlying22 sizeU8b _ _ _ _ _ _ rfl rfl (w.heap.size + 1) 0 zd 38 HB.out (u8s d) (by rw [HU.out]; rfl) (fun _ => rfl) HS.out (by rw [HU.out]; decide) (u8s_one d) ?_; intro w3 hb3 hf3 hs3; rw [HZ.out] at hb3; have HB3 := Lib.hid hb3; have HC3 := Lib.hid (show ∀ j v, (u8s d)[j]? = some v → w3.cell? ⟨w.heap.size + 1, 0 + j, none⟩ = some v from fun j v hv => by rw [hb3.cell, List.getElem?_toArray, Nat.zero_add]; exact hv); have HF3 := Lib.hid hf3; clear hb3 hf3 hs3)
    | (refine wpList_load_agg rfl 38 (.tmp 3) rfl (w.heap.size + 1) 0 rfl (u8s d) _ HC3.out Try.underlying38 rfl (by rw [HU.out]; exact dig_size) ?_)
    | (refine wpList_store_agg rfl 38 (.tmp 2) (.tmp 14) rfl w.heap.size 0 rfl (u8s d) rfl zd 38 (HRES.out.fr HF3.out (by simp)) (by rw [HU.out]; decide) (u8s_one d) (by rw [HU.out]; exact dig_size) ?_))
  have hb5 := HRES.out.fr HF3.out (by simp)
  have hb6 := hb5.setRow_ (splice zd 0 (u8s d)).toArray
  rw [HZ.out] at hb6 ⊢
  refine bodyPost_ret (results_cell_row (p := 2) (ty := 38) rfl _ _ w.heap.size 38 (u8s d).toArray (0, 0) _ rfl hb6 Try.underlying38 rfl (by rw [List.size_toArray, HU.out]; exact dig_size)) rfl ?_
  have hs1 := HP.out.1
  have hs2 := HP.out.2
  have hf3 := ((HF.out.mono (T := [p]) (by simp)).trans HF2.out).trans' HF3.out (fun x hx => .inr (by simp at hx; omega))
  exact ⟨rfl, (HI.out.fr HF3.out (by simp; omega) (by simp; omega)).fr ((Fr.refl [w.heap.size] w3).setRow (.inl (by simp)) _) (by simp; omega) (by simp; omega), hf3.setRow (.inr (Nat.le_refl _)) _⟩
end Go.Proofs.Ytaclinojbifkbaa
