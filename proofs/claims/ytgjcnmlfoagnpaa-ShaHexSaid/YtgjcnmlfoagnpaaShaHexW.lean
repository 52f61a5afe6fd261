/- The walk of ShaHex. -/
import Derived.Test.YtgjcnmlfoagnpaaShaJ
import Derived.Test.YtgjcnmlfoagnpaaShaY
import Derived.Test.YtgjcnmlfoagnpaaDig2
import Derived.BigQuiet
namespace Go.Proofs.Ytgjcnmlfoagnpaa
open Go.RowKit
set_option linter.unusedVariables false

theorem hexB_get (d : List UInt8) : ∀ (k : Nat) (x : UInt8), d[k]? = some x → (hexB d)[2 * k]? = some (hexD (x.toNat / 16)) ∧ (hexB d)[2 * k + 1]? = some (hexD (x.toNat % 16)) := by
  induction d with
  | nil => intro k x h; simp at h
  | cons y d ih =>
    intro k x h
    have e : hexB (y :: d) = hexD (y.toNat / 16) :: hexD (y.toNat % 16) :: hexB d := rfl
    cases k with
    | zero => simp at h; subst h; rw [e]; exact ⟨rfl, rfl⟩
    | succ k =>
      simp at h
      obtain ⟨h1, h2⟩ := ih k x h
      rw [e, show 2 * (k + 1) = 2 * k + 1 + 1 by omega]
      simp only [List.getElem?_cons_succ]
      exact ⟨h1, h2⟩
theorem hexB_mem (d : List UInt8) : ∀ c ∈ hexB d, ∃ n, n < 16 ∧ c = hexD n := by
  intro c hc
  simp only [hexB, List.mem_flatMap] at hc
  obtain ⟨x, _, h⟩ := hc
  have := UInt8.toNat_lt x
  simp at h
  rcases h with rfl | rfl
  · exact ⟨x.toNat / 16, by omega, rfl⟩
  · exact ⟨x.toNat % 16, by omega, rfl⟩
/-- what was told comes back -/
theorem frH_hexB (d : List UInt8) (hd : d.length = 32) : frH (hexB d) = (d, true) := by
  have hl := hexB_length d
  rw [frH, if_pos ⟨by omega, fun c hc => by obtain ⟨n, hn, rfl⟩ := hexB_mem d c hc; rw [hv_hexD n hn]; omega⟩]
  congr 1
  apply List.ext_getElem?
  intro k
  by_cases hk : k < 32
  · obtain ⟨x, hx⟩ : ∃ x, d[k]? = some x := ⟨d[k]'(by omega), by simp⟩
    obtain ⟨h1, h2⟩ := hexB_get d k x hx
    have := UInt8.toNat_lt x
    rw [hx, decB, List.getElem?_map, List.getElem?_range hk]
    simp only [Option.map_some, hexV, List.getD, h1, h2, Option.getD_some]
    rw [hv_hexD _ (by omega), hv_hexD _ (by omega), Int.toNat_natCast, Int.toNat_natCast, Nat.div_add_mod, UInt8.ofNat_toNat]
  · rw [List.getElem?_eq_none (show d.length ≤ k by omega), List.getElem?_eq_none (by rw [decB_length]; omega)]
def isH (c : UInt8) : Bool := decide (48 ≤ c.toNat ∧ c.toNat ≤ 57 ∨ 97 ≤ c.toNat ∧ c.toNat ≤ 102)
def isHs (s : List UInt8) (k : Nat) : Bool := decide (s.length = 64) && (s.take k).all isH
theorem isH_hv (c : UInt8) : isH c = true ↔ 0 ≤ hv c := by
  unfold isH
  rw [decide_eq_true_iff]
  rcases hv_any c with ⟨h1, h2⟩ | ⟨h1, _, _, h2⟩
  · exact ⟨fun h => absurd h h2, fun h => by omega⟩
  · exact ⟨fun _ => h1, fun _ => h2⟩
theorem isHs_all (s : List UInt8) : isHs s s.length = decide (s.length = 64 ∧ ∀ c ∈ s, 0 ≤ hv c) := by
  unfold isHs
  rw [List.take_length, Bool.eq_iff_iff]
  simp [List.all_eq_true, isH_hv]
theorem frH_true (s : List UInt8) (h : isHs s s.length = true) : frH s = (decB s 32, true) := by
  rw [isHs_all, decide_eq_true_iff] at h
  rw [frH, if_pos h]
theorem frH_false (s : List UInt8) (h : isHs s s.length = false) : frH s = (List.replicate 32 0, false) := by
  rw [isHs_all, decide_eq_false_iff_not] at h
  rw [frH, if_neg h]
theorem hexB_decB (s : List UInt8) (h : isHs s s.length = true) : hexB (decB s 32) = s := by
  rw [isHs_all, decide_eq_true_iff] at h
  obtain ⟨h64, hg⟩ := h
  apply List.ext_getElem?
  intro j
  have hl : (hexB (decB s 32)).length = 64 := by rw [hexB_length, decB_length]
  by_cases hj : j < 64
  · obtain ⟨k, hk⟩ : ∃ k, j = 2 * k ∨ j = 2 * k + 1 := ⟨j / 2, by omega⟩
    have hk32 : k < 32 := by omega
    have hd : (decB s 32)[k]? = some (hexV s k) := by rw [decB, List.getElem?_map, List.getElem?_range hk32]; rfl
    obtain ⟨h1, h2⟩ := hexB_get _ k _ hd
    obtain ⟨c1, hc1⟩ : ∃ x, s[2 * k]? = some x := ⟨s[2 * k]'(by omega), by simp⟩
    obtain ⟨c2, hc2⟩ : ∃ x, s[2 * k + 1]? = some x := ⟨s[2 * k + 1]'(by omega), by simp⟩
    have g1 := hg c1 (List.mem_of_getElem? hc1)
    have g2 := hg c2 (List.mem_of_getElem? hc2)
    rcases hv_any c1 with ⟨h, _⟩ | ⟨_, a1, a2, _⟩
    · omega
    rcases hv_any c2 with ⟨h, _⟩ | ⟨_, b1, b2, _⟩
    · omega
    have e : (hexV s k).toNat = 16 * (hv c1).toNat + (hv c2).toNat := by
      simp only [hexV, List.getD, hc1, hc2, Option.getD_some, UInt8.toNat_ofNat']
      omega
    rw [e] at h1 h2
    rcases hk with rfl | rfl
    · rw [h1, hc1, show (16 * (hv c1).toNat + (hv c2).toNat) / 16 = (hv c1).toNat by omega, a2]
    · rw [h2, hc2, show (16 * (hv c1).toNat + (hv c2).toNat) % 16 = (hv c2).toNat by omega, b2]
  · rw [List.getElem?_eq_none (by omega), List.getElem?_eq_none (by omega)]
theorem isHs_step (s : List UInt8) (k : Nat) (c : UInt8) (h : s[k]? = some c) : isHs s (k + 1) = (isHs s k && isH c) := by
  obtain ⟨hk, he⟩ := List.getElem?_eq_some_iff.1 h
  unfold isHs
  rw [List.take_succ_eq_append_getElem hk, List.all_append, he]
  simp [Bool.and_assoc]
theorem wpList_wanted {P : Program} {ops : Array Oper} {rest : List Oper} {o : Oper} {a : Act} {w w' : World} {Q : Exit → Act → World → Prop} {v : Value} (hw : Region.wanted o (yielded ops a.tmps) = true)
    (he : (execOp a.eval o).run P w = .ok (.value v) w') (h : wpList P ops Q rest (a.put o.dst v) w') : wpList P ops Q (o :: rest) a w :=
  wpList_step fun K hK => by rw [if_pos hw]; exact opwp_val he (hK _ _ h)
theorem ex_build0 {a : Act} {o : Oper} (ho : o.op = .build 25 #[]) (w : World) : (execOp a.eval o).run Try.prog w = .ok (.value (.agg (zs 32).toArray)) w := by
  have h : (execOp a.eval { o with op := .build 25 #[] }).run Try.prog w = .ok (.value (.agg (zs 32).toArray)) w := by kernel_rfl
  rwa [← ho] at h
set_option maxHeartbeats 4000000 in
set_option maxRecDepth 100000 in
theorem hex_walk (w : World) (d : List UInt8) (hd : d.length = 32) (s : List UInt8) : Calls Try.prog 7 #[.agg (u8s d).toArray, .string (str s)] w (QuietS (.bool true) w) := by
  have HD := Lib.hid hd
  have HAL := Lib.hid (fun w' => alive_calls w')
  have HFR := Lib.hid (frH_hexB d hd)
  have HB0 := Lib.hid (Blk.new w 25 (u8s d).toArray)
  have HF0 := Lib.hid ((Fr.refl [] w).alloc (.cells (u8s d).toArray 25))
  have hszI : ((str s).size : Int) = (s.length : Int) := by rw [str_size]
  by_cases h200 : 200 < s.length
  · have hI : (200 : Int) < ((str s).size : Int) := by omega
    clear hszI
    go_enter Try.func7, Try.ntmps7
    go_wp2_with (first
      | (refine box_agg rfl 25 (.tmp 0) rfl (u8s d).toArray rfl ?_)
      | (go_at_call 8; (with_reducible refine (HAL.out _).mono ?_); rintro e w1 ⟨rfl, f1⟩; have F1 := Lib.hid f1; clear f1))
    go_ret
    exact ⟨rfl, HF0.out.trans F1.out⟩
  · have hI : ¬ (200 : Int) < ((str s).size : Int) := by omega
    have H200 := Lib.hid h200
    have HSZ := Lib.hid hszI
    obtain ⟨S, hS⟩ : ∃ S, str (hexB d) = S := ⟨_, rfl⟩
    have HS := Lib.hid hS
    have hS64 : (S.size : Int) = 64 := by rw [← hS, str_size, hexB_length, hd]; rfl
    have HX := Lib.hid (fun w' => hex_calls w' d hd)
    have HFX := Lib.hid (fun w' => fromHex_calls w' (hexB d))
    have hgd := dig_guard'
    have heq := fun w' : World => eq_dig w' d d hd hd
    simp only [beq_self_eq_true] at heq
    have HSI := Lib.hid (dig_size d hd)
    have HFT := Lib.hid (show 0 + (u8s d).length ≤ (zs 32).length by simp [zs_length, hd])
    have HSP := Lib.hid (splice_32 d hd)
    clear hd h200 hS hszI
    go_enter Try.func7, Try.ntmps7
    go_wp2_with (first
      | (refine box_agg rfl 25 (.tmp 0) rfl (u8s d).toArray rfl ?_)
      | (go_at_call 8; (with_reducible refine (HAL.out _).mono ?_); rintro e w1 ⟨rfl, f1⟩; have F1 := Lib.hid (HF0.out.trans f1); have HB1 := Lib.hid (HB0.out.fr f1 (by simp)); have HC1 := Lib.hid (fun j v (hv : (u8s d)[j]? = some v) => show w1.cell? ⟨w.heap.size, 0 + j, none⟩ = some v by rw [HB1.out.cell, List.getElem?_toArray, Nat.zero_add]; exact hv); clear f1)
      | (refine wpList_load_agg rfl 25 (.tmp 2) rfl w.heap.size 0 rfl (u8s d) _ HC1.out Try.underlying25 rfl HSI.out ?_)
      | (go_at_call 19; (with_reducible refine (HX.out w1).mono ?_); rintro e w2 ⟨rfl, f2⟩; rw [HS.out]; have F2 := Lib.hid (F1.out.trans f2); have HB2 := Lib.hid (HB1.out.fr f2 (by simp)); have HFX2 := Lib.hid (HFX.out w2); clear f2)
      | (go_at_call 20; rw [← HS.out]; (with_reducible refine HFX2.out.mono ?_); rintro e w3 ⟨rfl, f3⟩; rw [HFR.out, HS.out]; have F3 := Lib.hid (F2.out.trans f3); have HB3 := Lib.hid (HB2.out.fr f3 (by simp)); clear f3)
      | (refine wpList_alloc_agg rfl 25 rfl (zs 32).toArray arr32_zero ?_)
      | (refine wpList_store_agg rfl 25 (.tmp 6) (.tmp 23) rfl w3.heap.size 0 rfl (u8s d) rfl (zs 32) 25 (Blk.new w3 _ _) HFT.out (u8s_one _) HSI.out ?_; rw [HSP.out]; obtain ⟨w4, hw4⟩ : ∃ W, (w3.alloc (.cells (zs 32).toArray 25)).setRow w3.heap.size (u8s d).toArray = W := ⟨_, rfl⟩; rw [hw4];
          have F4 := Lib.hid (show Fr [] w w4 from hw4 ▸ (F3.out.alloc _).setRow (.inr F3.out.size) _);
          have HB4 := Lib.hid (show Blk w4 w.heap.size 25 (u8s d).toArray from hw4 ▸ (HB3.out.alloc _).setRow_far (by have := HB3.out.lt; omega) _);
          have HC4 := Lib.hid (fun j v (hv : (u8s d)[j]? = some v) => show w4.cell? ⟨w3.heap.size, 0 + j, none⟩ = some v by rw [← hw4, ((Blk.new w3 25 (zs 32).toArray).setRow_ (u8s d).toArray).cell, List.getElem?_toArray, Nat.zero_add]; exact hv);
          have HD4 := Lib.hid (fun j v (hv : (u8s d)[j]? = some v) => show w4.cell? ⟨w.heap.size, 0 + j, none⟩ = some v by rw [HB4.out.cell, List.getElem?_toArray, Nat.zero_add]; exact hv); clear hw4)
      | (refine wpList_wanted (v := .agg (u8s d).toArray) (w' := w4) (by kernel_rfl) (exec_load_agg (ty := 25) (x := .tmp 6) rfl w3.heap.size 0 rfl (u8s d) _ HC4.out Try.underlying25 rfl HSI.out) ?_)
      | (refine wpList_wanted (v := .agg (u8s d).toArray) (w' := w4) (by kernel_rfl) (exec_load_agg (ty := 25) (x := .tmp 2) rfl w.heap.size 0 rfl (u8s d) _ HD4.out Try.underlying25 rfl HSI.out) ?_))
    go_loopg [8] 32 (fun gg u wr => ∃ k : Nat, k ≤ 32 ∧ gg = 32 - k ∧ u = .int .i64 k ∧ Blk wr w.heap.size 25 (u8s d).toArray ∧ Fr [] w wr)
    case atStart => exact ⟨0, by omega, by omega, rfl, HB4.out, F4.out⟩
    case round =>
      obtain ⟨k, hk, rfl, rfl, hb, hf⟩ := hrel
      have HB5 := Lib.hid hb; have F5 := Lib.hid hf
      clear hb hf
      by_cases hlt : k < 32
      · obtain ⟨x, hx⟩ : ∃ x, d[k]? = some x := ⟨d[k]'(by have := HD.out; omega), by simp⟩
        obtain ⟨g1, g2⟩ := hexB_get d k x hx
        have hxl : x.toNat < 256 := UInt8.toNat_lt _
        have hi1 := ix_dig (x.toNat / 16) (by omega)
        rw [show ((x.toNat / 16 : Nat) : Int) = (x.toNat : Int) / 16 by omega] at hi1
        have hi2 := ix_dig (x.toNat % 16) (by omega)
        rw [show ((x.toNat % 16 : Nat) : Int) = (x.toNat : Int) % 16 by omega] at hi2
        have hj1 := fun w' => ix_str g1 w'
        have hj2 := fun w' => ix_str g2 w'
        rw [HS.out] at hj1 hj2
        obtain ⟨y1, hy1⟩ : ∃ y, hexD (x.toNat / 16) = y := ⟨_, rfl⟩
        obtain ⟨y2, hy2⟩ : ∃ y, hexD (x.toNat % 16) = y := ⟨_, rfl⟩
        rw [hy1] at hi1 hj1; rw [hy2] at hi2 hj2
        have hc1 : wr.cell? ⟨w.heap.size, k, none⟩ = some (u8v x) := by rw [HB5.out.cell, List.getElem?_toArray, u8s_get, hx]; rfl
        have hkI : (0 : Int) ≤ (k : Int) ∧ (k : Int) < 32 := by omega
        push_cast at hj1 hj2
        clear hx g1 g2 hy1 hy2
        go_wp2_with fail
        go_quiet (fail)
        go_wp2_with fail
        go_roundg (32 - (k + 1))
        case measure => omega
        case rel => exact ⟨k + 1, by omega, rfl, by go_num, HB5.out.drewN _, F5.out.drewN _⟩
      · obtain rfl : k = 32 := by omega
        go_wp2_with fail
        go_loopg [9, 10] s.length (fun gg g u wr => ∃ k : Nat, k ≤ s.length ∧ gg = s.length - k ∧ g = .bool (isHs s k) ∧ u = .int .i64 k ∧ Fr [] w wr)
        case atStart =>
          refine ⟨0, by omega, by omega, ?_, rfl, F5.out⟩
          refine congrArg Value.bool ?_
          rw [HSZ.out, Bool.eq_iff_iff]
          simp [isHs]
          omega
        case round =>
          obtain ⟨k, hk, rfl, rfl, rfl, hf⟩ := hrel
          have F6 := Lib.hid hf
          clear hf
          by_cases hlt : k < s.length
          · obtain ⟨x, hx⟩ : ∃ x, s[k]? = some x := ⟨s[k]'(by omega), by simp⟩
            have hj := fun w' => ix_str hx w'
            have HST := Lib.hid (isHs_step s k x hx)
            have hkI : (0 : Int) ≤ (k : Int) ∧ (k : Int) < ((str s).size : Int) := by have := HSZ.out; omega
            have HX := Lib.hid (show isH x = decide (48 ≤ x.toNat ∧ x.toNat ≤ 57 ∨ 97 ≤ x.toNat ∧ x.toNat ≤ 102) from rfl)
            obtain ⟨G, hG⟩ : ∃ G, isHs s k = G := ⟨_, rfl⟩
            rw [hG] at HST ⊢
            clear hx hG hI
            cases G with
            | false =>
              go_wp2_with fail
              go_roundg (s.length - (k + 1))
              case measure => omega
              case rel => exact ⟨k + 1, by omega, rfl, by rw [HST.out]; rfl, by go_num, F6.out⟩
            | true =>
              by_cases h1 : 48 ≤ x.toNat
              · have hI1 : (48 : Int) ≤ (x.toNat : Int) := by omega
                by_cases h2 : x.toNat ≤ 57
                · have hI2 : (x.toNat : Int) ≤ 57 := by omega
                  have HR := Lib.hid (show isH x = true by rw [HX.out]; rw [decide_eq_true_iff]; omega)
                  clear HX
                  go_wp2_with fail
                  go_roundg (s.length - (k + 1))
                  case measure => omega
                  case rel => exact ⟨k + 1, by omega, rfl, by rw [HST.out, HR.out]; first | rfl | (simp; omega), by go_num, F6.out⟩
                · have hI2 : (57 : Int) < (x.toNat : Int) := by omega
                  by_cases h3 : 97 ≤ x.toNat
                  · have hI3 : (97 : Int) ≤ (x.toNat : Int) := by omega
                    by_cases h4 : x.toNat ≤ 102
                    · have hI4 : (x.toNat : Int) ≤ 102 := by omega
                      have HR := Lib.hid (show isH x = true by rw [HX.out]; rw [decide_eq_true_iff]; omega)
                      clear HX
                      go_wp2_with fail
                      go_roundg (s.length - (k + 1))
                      case measure => omega
                      case rel => exact ⟨k + 1, by omega, rfl, by rw [HST.out, HR.out]; first | rfl | (simp; omega), by go_num, F6.out⟩
                    · have hI4 : (102 : Int) < (x.toNat : Int) := by omega
                      have HR := Lib.hid (show isH x = false by rw [HX.out]; rw [decide_eq_false_iff_not]; omega)
                      clear HX
                      go_wp2_with fail
                      go_roundg (s.length - (k + 1))
                      case measure => omega
                      case rel => exact ⟨k + 1, by omega, rfl, by rw [HST.out, HR.out]; first | rfl | (simp; omega), by go_num, F6.out⟩
                  · have hI3 : (x.toNat : Int) < 97 := by omega
                    have HR := Lib.hid (show isH x = false by rw [HX.out]; rw [decide_eq_false_iff_not]; omega)
                    clear HX
                    go_wp2_with fail
                    go_roundg (s.length - (k + 1))
                    case measure => omega
                    case rel => exact ⟨k + 1, by omega, rfl, by rw [HST.out, HR.out]; first | rfl | (simp; omega), by go_num, F6.out⟩
              · have hI1 : (x.toNat : Int) < 48 := by omega
                have HR := Lib.hid (show isH x = false by rw [HX.out]; rw [decide_eq_false_iff_not]; omega)
                clear HX
                go_wp2_with fail
                go_roundg (s.length - (k + 1))
                case measure => omega
                case rel => exact ⟨k + 1, by omega, rfl, by rw [HST.out, HR.out]; first | rfl | (simp; omega), by go_num, F6.out⟩
          · obtain rfl : k = s.length := by omega
            cases hG : isHs s s.length with
            | false =>
              have HFS := Lib.hid (show Calls Try.prog 20 #[.string (str s)] wr (fun e w' => e = .returned (.tuple #[.agg (zs 32).toArray, .bool false]) ∧ Fr [] wr w') from
                (fromHex_calls wr s).mono fun e w' ⟨h1, h2⟩ => ⟨by rw [h1, frH_false s hG]; rfl, h2⟩)
              have hz1 : (List.replicate 32 (0 : UInt8)).length = 32 := List.length_replicate
              have heqz : ∀ w' : World, (Op.equalIn 10000 25 (.agg (zs 32).toArray) (.agg (zs 32).toArray)).run Try.prog w' = .ok true w' := fun w' => by
                have := eq_dig w' (List.replicate 32 0) (List.replicate 32 0) hz1 hz1
                rw [beq_self_eq_true] at this
                exact this
              have HSZ2 := Lib.hid (show (Try.prog.info? 25).map (·.size) = some (zs 32).length from dig_size (List.replicate 32 0) hz1)
              have HFT2 := Lib.hid (show 0 + (zs 32).length ≤ (zs 32).length by omega)
              have HSP2 := Lib.hid (show splice (zs 32) 0 (zs 32) = zs 32 from splice_32 (List.replicate 32 0) hz1)
              clear hG hz1
              go_wp2_with (first
                | (go_at_call 20; (with_reducible refine HFS.out.mono ?_); rintro e w7 ⟨rfl, f7⟩; have F7 := Lib.hid (F6.out.trans f7); clear f7)
                | (refine wpList_alloc_agg rfl 25 rfl (zs 32).toArray arr32_zero ?_)
                | (refine wpList_store_agg rfl 25 (.tmp 11) (.tmp 101) rfl w7.heap.size 0 rfl (zs 32) rfl (zs 32) 25 (Blk.new w7 _ _) HFT2.out (u8s_one _) HSZ2.out ?_; rw [HSP2.out]; obtain ⟨w8, hw8⟩ : ∃ W, (w7.alloc (.cells (zs 32).toArray 25)).setRow w7.heap.size (zs 32).toArray = W := ⟨_, rfl⟩; rw [hw8];
                    have F8 := Lib.hid (show Fr [] w w8 from hw8 ▸ (F7.out.alloc _).setRow (.inr F7.out.size) _);
                    have HC8 := Lib.hid (fun j v (hv : (zs 32)[j]? = some v) => show w8.cell? ⟨w7.heap.size, 0 + j, none⟩ = some v by rw [← hw8, ((Blk.new w7 25 (zs 32).toArray).setRow_ (zs 32).toArray).cell, List.getElem?_toArray, Nat.zero_add]; exact hv); clear hw8)
                | (refine wpList_wanted (v := .agg (zs 32).toArray) (w' := w8) (by kernel_rfl) (exec_load_agg (ty := 25) (x := .tmp 11) rfl w7.heap.size 0 rfl (zs 32) _ HC8.out Try.underlying25 rfl HSZ2.out) ?_)
                | (refine wpList_wanted (v := .agg (zs 32).toArray) (w' := w8) (by kernel_rfl) (ex_build0 rfl w8) ?_))
              go_ret
              exact ⟨rfl, F8.out⟩
            | true =>
              have hHX := congrArg str (hexB_decB s hG)
              have hl32 := decB_length s 32
              have hFA := frH_true s hG
              obtain ⟨D, hD⟩ : ∃ D, decB s 32 = D := ⟨_, rfl⟩
              rw [hD] at hHX hl32 hFA
              have HFS := Lib.hid (show Calls Try.prog 20 #[.string (str s)] wr (fun e w' => e = .returned (.tuple #[.agg (u8s D).toArray, .bool true]) ∧ Fr [] wr w') from
                (fromHex_calls wr s).mono fun e w' ⟨h1, h2⟩ => ⟨by rw [h1, hFA], h2⟩)
              have HXD := Lib.hid (fun w' => (hex_calls w' D hl32).mono (R' := fun e w2 => e = .returned (.string (str s)) ∧ Fr [] w' w2) fun e w2 ⟨h1, h2⟩ => ⟨by rw [h1, hHX], h2⟩)
              have HSZ2 := Lib.hid (dig_size D hl32)
              have HFT2 := Lib.hid (show 0 + (u8s D).length ≤ (zs 32).length by simp [zs_length, hl32])
              have HSP2 := Lib.hid (splice_32 D hl32)
              clear hG hHX hl32 hFA hD
              go_wp2_with (first
                | (go_at_call 20; (with_reducible refine HFS.out.mono ?_); rintro e w7 ⟨rfl, f7⟩; have F7 := Lib.hid (F6.out.trans f7); clear f7)
                | (refine wpList_alloc_agg rfl 25 rfl (zs 32).toArray arr32_zero ?_)
                | (refine wpList_store_agg rfl 25 (.tmp 11) (.tmp 101) rfl w7.heap.size 0 rfl (u8s D) rfl (zs 32) 25 (Blk.new w7 _ _) HFT2.out (u8s_one _) HSZ2.out ?_; rw [HSP2.out]; obtain ⟨w8, hw8⟩ : ∃ W, (w7.alloc (.cells (zs 32).toArray 25)).setRow w7.heap.size (u8s D).toArray = W := ⟨_, rfl⟩; rw [hw8];
                    have F8 := Lib.hid (show Fr [] w w8 from hw8 ▸ (F7.out.alloc _).setRow (.inr F7.out.size) _);
                    have HC8 := Lib.hid (fun j v (hv : (u8s D)[j]? = some v) => show w8.cell? ⟨w7.heap.size, 0 + j, none⟩ = some v by rw [← hw8, ((Blk.new w7 25 (zs 32).toArray).setRow_ (u8s D).toArray).cell, List.getElem?_toArray, Nat.zero_add]; exact hv); clear hw8)
                | (refine wpList_wanted (v := .agg (u8s D).toArray) (w' := w8) (by kernel_rfl) (exec_load_agg (ty := 25) (x := .tmp 11) rfl w7.heap.size 0 rfl (u8s D) _ HC8.out Try.underlying25 rfl HSZ2.out) ?_)
                | (go_at_call 19; (with_reducible refine (HXD.out _).mono ?_); rintro e w9 ⟨rfl, f9⟩; have F9 := Lib.hid (F8.out.trans f9); clear f9))
              go_ret
              exact ⟨rfl, F9.out⟩
end Go.Proofs.Ytgjcnmlfoagnpaa
