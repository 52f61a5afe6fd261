/- History, the document's: paths. -/
import Derived.Test.YtmgbimdebhhckaaHistF
namespace Go.Proofs.Ytmgbimdebhhckaa
open Go.RowKit
set_option linter.unusedVariables false

set_option maxHeartbeats 4000000 in
theorem rpath_calls (k : Nat) : ∀ (w : World) (A : Option Addr) (n c i : Nat) (ds : List (List UInt8)), n ≤ k → ds.length = n → n ≤ c → 1 ≤ n → n ≤ 100000 → i < n → DgIn w A ds →
    Calls Try.prog 12 #[.slice A n c, .int .i64 (i : Int)] w (OwnD w (pathF ds i)) := by
  induction k with
  | zero => intro w A n c i ds hk hn hc h1 hb hi hD; omega
  | succ k ih =>
    intro w A n c i ds hk hn hc h1 hb hi hD
    by_cases hn1 : n = 1
    · subst hn1
      have e : pathF ds i = [] := by rw [pathF, dif_pos (by omega)]
      have HE := Lib.hid e
      clear e ih
      go_enter Try.func12, Try.ntmps12
      go_wp2_with fail
      go_ret
      rw [HE.out]
      exact ⟨by simp, _, rfl, World.ownsRow_nil _ _ _ _, Fr.refl _ _⟩
    · obtain ⟨_, _, g1, g2, g3⟩ := halfN_spec n (by omega) (by omega)
      have HHC := Lib.hid (rhalf_calls w n (by omega) (by omega))
      have he := pathF.eq_def ds i
      rw [dif_neg (by omega), hn, hfN_eq n (by omega) (by omega)] at he
      obtain ⟨H, hH⟩ : ∃ H, halfN n = H := ⟨_, rfl⟩
      rw [hH] at he g1 g2 g3 HHC
      have HDN := Lib.hid hn; have HD := Lib.hid hD
      have HHN := Lib.hid (And.intro g1 (And.intro g2 (And.intro hk (And.intro hc hb))))
      have HRL := Lib.hid (fun (w' : World) (h : Fr [] w w') => rroot_calls H w' A H c (ds.take H) (Nat.le_refl _) (by rw [List.length_take, hn]; omega) (by omega) (by omega) ((hD.fr h).take H))
      have HRR := Lib.hid (fun (w' : World) (h : Fr [] w w') => rroot_calls (n - H) w' (A.map (·.add (H * 32))) (n - H) (c - H) (ds.drop H) (Nat.le_refl _) (by rw [List.length_drop, hn]) (by omega) (by omega) ((hD.fr h).drop H))
      have hI : (2 : Int) ≤ (n : Int) ∧ (n : Int) ≤ 100000 ∧ (n : Int) ≤ (c : Int) ∧ (1 : Int) ≤ (H : Int) ∧ (H : Int) < (n : Int) ∧ (H : Int) < (c : Int) ∧ (0 : Int) ≤ (i : Int) ∧ (i : Int) < (n : Int) := by omega
      have hn1' : ((n : Int) == 1) = false := by rw [beq_eq_false_iff_ne]; omega
      by_cases hiH : i < H
      · rw [if_pos hiH] at he
        have HE := Lib.hid he
        have HPL := Lib.hid (fun (w' : World) (h : Fr [] w w') => ih w' A H c i (ds.take H) (by omega) (by rw [List.length_take, hn]; omega) (by omega) (by omega) (by omega) hiH ((hD.fr h).take H))
        have hiI : (i : Int) < (H : Int) := by omega
        clear he ih hk hn hc h1 hb hi hD hn1 g1 g2 g3 hH hiH
        go_enter Try.func12, Try.ntmps12
        go_wp2_with (go_at_call 29; (with_reducible refine HHC.out.mono ?_); rintro e w2 ⟨rfl, rfl⟩)
        obtain ⟨W1, hW1⟩ : ∃ W1, w.drew = W1 := ⟨_, rfl⟩
        have HF1 := Lib.hid (show Fr [] w W1 from hW1 ▸ (Fr.refl [] w).drew)
        have HLEN := Lib.hid (pathF_small (ds.take H) i (by simp; have := HDN.out; omega))
        refine seq_begin (by kernel_rfl) ?_
        rw [hW1]
        clear hW1
        refine seq_take (i := 0) (v := (.slice A n c)) (d := 15) rfl (by kernel_rfl) (by kernel_rfl) (by kernel_rfl) (by kernel_rfl) (by kernel_rfl) (fun _ _ _ h => h) ?_ ?_
        · intro w9; kernel_rfl
        try simp only [Act.put, List.setIfInBounds_toArray, List.set_cons_zero, List.set_cons_succ]
        refine seq_take (i := 1) (v := (.int .i64 (H : Int))) (d := 16) rfl (by kernel_rfl) (by kernel_rfl) (by kernel_rfl) (by kernel_rfl) (by kernel_rfl) (fun _ _ _ h => h) ?_ ?_
        · intro w9; kernel_rfl
        try simp only [Act.put, List.setIfInBounds_toArray, List.set_cons_zero, List.set_cons_succ]
        refine seq_take (i := 2) (v := (.slice A H c)) (d := 17) rfl (by kernel_rfl) (by kernel_rfl) (by kernel_rfl) (by kernel_rfl) (by kernel_rfl) (fun _ _ _ h => h) ?_ ?_
        · intro w9; go_simp; intro h; have := HHN.out; omega
        try simp only [Act.put, List.setIfInBounds_toArray, List.set_cons_zero, List.set_cons_succ]
        refine seq_take (i := 3) (v := (.int .i64 (i : Int))) (d := 18) rfl (by kernel_rfl) (by kernel_rfl) (by kernel_rfl) (by kernel_rfl) (by kernel_rfl) (fun _ _ _ h => h) ?_ ?_
        · intro w9; kernel_rfl
        try simp only [Act.put, List.setIfInBounds_toArray, List.set_cons_zero, List.set_cons_succ]
        refine seq_take (i := 5) (v := (.slice A n c)) (d := 20) rfl (by kernel_rfl) (by kernel_rfl) (by kernel_rfl) (by kernel_rfl) (by kernel_rfl) (fun _ _ _ h => h) ?_ ?_
        · intro w9; kernel_rfl
        try simp only [Act.put, List.setIfInBounds_toArray, List.set_cons_zero, List.set_cons_succ]
        refine seq_take (i := 6) (v := (.int .i64 (H : Int))) (d := 21) rfl (by kernel_rfl) (by kernel_rfl) (by kernel_rfl) (by kernel_rfl) (by kernel_rfl) (fun _ _ _ h => h) ?_ ?_
        · intro w9; kernel_rfl
        try simp only [Act.put, List.setIfInBounds_toArray, List.set_cons_zero, List.set_cons_succ]
        refine seq_take (i := 7) (v := (.slice (A.map (·.add (H * 32))) (n - H) (c - H))) (d := 22) rfl (by kernel_rfl) (by kernel_rfl) (by kernel_rfl) (by kernel_rfl) (by kernel_rfl) (fun _ _ _ h => h) ?_ ?_
        · intro w9; go_simp; rw [if_pos (by have := HHN.out; omega), if_neg (by have := HHN.out; omega)]
        try simp only [Act.put, List.setIfInBounds_toArray, List.set_cons_zero, List.set_cons_succ]
        refine seq_only (i := 4) rfl (by kernel_rfl) (by kernel_rfl) ?_
        have hr4 := fun (a : Act) (o : Oper) (K : Act → World → Prop) (Q : Exit → Act → World → Prop) => @sq_call Try.prog Q a o W1 K (OwnD W1 (pathF (ds.take H) i)) 12 #[.slice A H c, .int .i64 (i : Int)] 19
        refine hr4 _ _ _ _ ?_ ?_ ?_ ?_
        · kernel_rfl
        · kernel_rfl
        · exact HPL.out W1 HF1.out
        rintro e W2 ⟨hps, v9, rfl, ho9, f9⟩
        have HPS := Lib.hid hps; have HO2 := Lib.hid ho9; have HF2 := Lib.hid (HF1.out.trans f9)
        clear hps ho9 f9
        refine ⟨_, rfl, ?_⟩
        clear hr4
        try simp only [Act.put, List.setIfInBounds_toArray, List.set_cons_zero, List.set_cons_succ]
        refine seq_only (i := 8) rfl (by kernel_rfl) (by kernel_rfl) ?_
        have hr8 := fun (a : Act) (o : Oper) (K : Act → World → Prop) (Q : Exit → Act → World → Prop) => @sq_call Try.prog Q a o W2 K (Agg (.agg (u8s (rootF (ds.drop H))).toArray) W2) 10 #[.slice (A.map (·.add (H * 32))) (n - H) (c - H)] 23
        refine hr8 _ _ _ _ ?_ ?_ ?_ ?_
        · kernel_rfl
        · kernel_rfl
        · exact HRR.out W2 HF2.out
        rintro e W3 ⟨rfl, f9⟩
        have HF3 := Lib.hid (HF2.out.trans f9)
        have HO3 := Lib.hid (own_fr HO2.out f9 (by simp))
        clear f9
        refine ⟨_, rfl, ?_⟩
        clear hr8
        try simp only [Act.put, List.setIfInBounds_toArray, List.set_cons_zero, List.set_cons_succ]
        refine seq_only (i := 9) rfl (by kernel_rfl) (by kernel_rfl) ?_
        have hr9 := fun (a : Act) (o : Oper) (K : Act → World → Prop) (Q : Exit → Act → World → Prop) => @sq_val Try.prog Q a o W3 K (.slice (some ⟨W3.heap.size, 0, none⟩) 1 1) (W3.alloc (.cells (u8s (rootF (ds.drop H))).toArray 25)) 24
        refine hr9 _ _ _ _ ?_ ?_ ?_
        · kernel_rfl
        · refine ex_build_dg rfl W3 (rootF (ds.drop H)) (rootF_length _) (by kernel_rfl)
        clear hr9
        try simp only [Act.put, List.setIfInBounds_toArray, List.set_cons_zero, List.set_cons_succ]
        have HO4 := Lib.hid (own_mono (HO3.out.alloc (.cells (u8s (rootF (ds.drop H))).toArray 25)) HF1.out.size); have HF4 := Lib.hid (HF3.out.alloc (.cells (u8s (rootF (ds.drop H))).toArray 25)); have HB4 := Lib.hid (Blk.new W3 25 (u8s (rootF (ds.drop H))).toArray)
        refine seq_only (i := 10) rfl (by kernel_rfl) (by kernel_rfl) ?_
        have hr10 := fun (a : Act) (o : Oper) (K : Act → World → Prop) (Q : Exit → Act → World → Prop) (hgd : o.guard = none) (hd : o.dst = some 25) (ho : o.op = .call { callee := .builtin .append, args := #[.tmp 19, .tmp 24], argTypes := #[22, 22] }) (hs : a.eval (.tmp 19) = v9) (hx : a.eval (.tmp 24) = .slice (some ⟨W3.heap.size, 0, none⟩) 1 1) => @sq_appDg Q o a (W3.alloc (.cells (u8s (rootF (ds.drop H))).toArray 25)) K hgd (.tmp 19) (.tmp 24) 25 hd ho w.heap.size v9 (pathF (ds.take H) i) hs HO4.out (rootF (ds.drop H)) (rootF_length _) W3.heap.size 1 hx HB4.out HLEN.out HF4.out.size
        refine hr10 _ _ _ _ ?_ ?_ ?_ ?_ ?_ ?_
        · kernel_rfl
        · kernel_rfl
        · kernel_rfl
        · kernel_rfl
        · kernel_rfl
        intro v5 W5 ho5 hf5
        have HO5 := Lib.hid ho5; have HF5 := Lib.hid (HF4.out.trans' hf5 (fun x hx => by simp only [Option.mem_toList] at hx; exact .inr (HO4.out.lt x hx).1))
        clear hr10 ho5 hf5
        try simp only [Act.put, List.setIfInBounds_toArray, List.set_cons_zero, List.set_cons_succ]
        refine seq_take (i := 11) (v := v5) (d := 4) rfl (by kernel_rfl) (by kernel_rfl) (by kernel_rfl) (by kernel_rfl) (by kernel_rfl) (fun _ _ _ h => h) ?_ ?_
        · intro w9; kernel_rfl
        try simp only [Act.put, List.setIfInBounds_toArray, List.set_cons_zero, List.set_cons_succ]
        refine wpAnyH_done (by kernel_rfl) ?_ _
        go_wp2_with fail
        go_ret
        refine ⟨pathF_all _ _, v5, rfl, ?_, HF5.out⟩
        rw [HE.out]
        exact HO5.out
      · rw [if_neg hiH] at he
        have HE := Lib.hid he
        have hps := fun (w' : World) (h : Fr [] w w') => ih w' (A.map (·.add (H * 32))) (n - H) (c - H) (i - H) (ds.drop H) (by omega) (by rw [List.length_drop, hn]) (by omega) (by omega) (by omega) (by omega) ((hD.fr h).drop H)
        rw [show ((i - H : Nat) : Int) = (i : Int) - (H : Int) by omega] at hps
        have HPR := Lib.hid hps
        have hiI : (H : Int) ≤ (i : Int) := by omega
        clear he ih hk hn hc h1 hb hi hD hn1 g1 g2 g3 hH hiH hps
        go_enter Try.func12, Try.ntmps12
        go_wp2_with (go_at_call 29; (with_reducible refine HHC.out.mono ?_); rintro e w2 ⟨rfl, rfl⟩)
        obtain ⟨W1, hW1⟩ : ∃ W1, w.drew = W1 := ⟨_, rfl⟩
        have HF1 := Lib.hid (show Fr [] w W1 from hW1 ▸ (Fr.refl [] w).drew)
        have HLEN := Lib.hid (pathF_small (ds.drop H) (i - H) (by simp; have := HDN.out; omega))
        refine seq_begin (by kernel_rfl) ?_
        rw [hW1]
        clear hW1
        refine seq_take (i := 0) (v := (.slice A n c)) (d := 26) rfl (by kernel_rfl) (by kernel_rfl) (by kernel_rfl) (by kernel_rfl) (by kernel_rfl) (fun _ _ _ h => h) ?_ ?_
        · intro w9; kernel_rfl
        try simp only [Act.put, List.setIfInBounds_toArray, List.set_cons_zero, List.set_cons_succ]
        refine seq_take (i := 1) (v := (.int .i64 (H : Int))) (d := 27) rfl (by kernel_rfl) (by kernel_rfl) (by kernel_rfl) (by kernel_rfl) (by kernel_rfl) (fun _ _ _ h => h) ?_ ?_
        · intro w9; kernel_rfl
        try simp only [Act.put, List.setIfInBounds_toArray, List.set_cons_zero, List.set_cons_succ]
        refine seq_take (i := 2) (v := (.slice (A.map (·.add (H * 32))) (n - H) (c - H))) (d := 28) rfl (by kernel_rfl) (by kernel_rfl) (by kernel_rfl) (by kernel_rfl) (by kernel_rfl) (fun _ _ _ h => h) ?_ ?_
        · intro w9; go_simp; rw [if_pos (by have := HHN.out; omega), if_neg (by have := HHN.out; omega)]
        try simp only [Act.put, List.setIfInBounds_toArray, List.set_cons_zero, List.set_cons_succ]
        refine seq_take (i := 3) (v := (.int .i64 (i : Int))) (d := 29) rfl (by kernel_rfl) (by kernel_rfl) (by kernel_rfl) (by kernel_rfl) (by kernel_rfl) (fun _ _ _ h => h) ?_ ?_
        · intro w9; kernel_rfl
        try simp only [Act.put, List.setIfInBounds_toArray, List.set_cons_zero, List.set_cons_succ]
        refine seq_take (i := 4) (v := (.int .i64 (H : Int))) (d := 30) rfl (by kernel_rfl) (by kernel_rfl) (by kernel_rfl) (by kernel_rfl) (by kernel_rfl) (fun _ _ _ h => h) ?_ ?_
        · intro w9; kernel_rfl
        try simp only [Act.put, List.setIfInBounds_toArray, List.set_cons_zero, List.set_cons_succ]
        refine seq_take (i := 5) (v := (.int .i64 ((i : Int) - (H : Int)))) (d := 31) rfl (by kernel_rfl) (by kernel_rfl) (by kernel_rfl) (by kernel_rfl) (by kernel_rfl) (fun _ _ _ h => h) ?_ ?_
        · intro w9; go_simp; rw [IntKind.wrap_i64]; omega
        try simp only [Act.put, List.setIfInBounds_toArray, List.set_cons_zero, List.set_cons_succ]
        refine seq_take (i := 7) (v := (.slice A n c)) (d := 33) rfl (by kernel_rfl) (by kernel_rfl) (by kernel_rfl) (by kernel_rfl) (by kernel_rfl) (fun _ _ _ h => h) ?_ ?_
        · intro w9; kernel_rfl
        try simp only [Act.put, List.setIfInBounds_toArray, List.set_cons_zero, List.set_cons_succ]
        refine seq_take (i := 8) (v := (.int .i64 (H : Int))) (d := 34) rfl (by kernel_rfl) (by kernel_rfl) (by kernel_rfl) (by kernel_rfl) (by kernel_rfl) (fun _ _ _ h => h) ?_ ?_
        · intro w9; kernel_rfl
        try simp only [Act.put, List.setIfInBounds_toArray, List.set_cons_zero, List.set_cons_succ]
        refine seq_take (i := 9) (v := (.slice A H c)) (d := 35) rfl (by kernel_rfl) (by kernel_rfl) (by kernel_rfl) (by kernel_rfl) (by kernel_rfl) (fun _ _ _ h => h) ?_ ?_
        · intro w9; go_simp; intro h; have := HHN.out; omega
        try simp only [Act.put, List.setIfInBounds_toArray, List.set_cons_zero, List.set_cons_succ]
        refine seq_only (i := 6) rfl (by kernel_rfl) (by kernel_rfl) ?_
        have hr6 := fun (a : Act) (o : Oper) (K : Act → World → Prop) (Q : Exit → Act → World → Prop) => @sq_call Try.prog Q a o W1 K (OwnD W1 (pathF (ds.drop H) (i - H))) 12 #[.slice (A.map (·.add (H * 32))) (n - H) (c - H), .int .i64 ((i : Int) - (H : Int))] 32
        refine hr6 _ _ _ _ ?_ ?_ ?_ ?_
        · kernel_rfl
        · kernel_rfl
        · exact HPR.out W1 HF1.out
        rintro e W2 ⟨hps, v9, rfl, ho9, f9⟩
        have HPS := Lib.hid hps; have HO2 := Lib.hid ho9; have HF2 := Lib.hid (HF1.out.trans f9)
        clear hps ho9 f9
        refine ⟨_, rfl, ?_⟩
        clear hr6
        try simp only [Act.put, List.setIfInBounds_toArray, List.set_cons_zero, List.set_cons_succ]
        refine seq_only (i := 10) rfl (by kernel_rfl) (by kernel_rfl) ?_
        have hr10 := fun (a : Act) (o : Oper) (K : Act → World → Prop) (Q : Exit → Act → World → Prop) => @sq_call Try.prog Q a o W2 K (Agg (.agg (u8s (rootF (ds.take H))).toArray) W2) 10 #[.slice A H c] 36
        refine hr10 _ _ _ _ ?_ ?_ ?_ ?_
        · kernel_rfl
        · kernel_rfl
        · exact HRL.out W2 HF2.out
        rintro e W3 ⟨rfl, f9⟩
        have HF3 := Lib.hid (HF2.out.trans f9)
        have HO3 := Lib.hid (own_fr HO2.out f9 (by simp))
        clear f9
        refine ⟨_, rfl, ?_⟩
        clear hr10
        try simp only [Act.put, List.setIfInBounds_toArray, List.set_cons_zero, List.set_cons_succ]
        refine seq_only (i := 11) rfl (by kernel_rfl) (by kernel_rfl) ?_
        have hr11 := fun (a : Act) (o : Oper) (K : Act → World → Prop) (Q : Exit → Act → World → Prop) => @sq_val Try.prog Q a o W3 K (.slice (some ⟨W3.heap.size, 0, none⟩) 1 1) (W3.alloc (.cells (u8s (rootF (ds.take H))).toArray 25)) 37
        refine hr11 _ _ _ _ ?_ ?_ ?_
        · kernel_rfl
        · refine ex_build_dg rfl W3 (rootF (ds.take H)) (rootF_length _) (by kernel_rfl)
        clear hr11
        try simp only [Act.put, List.setIfInBounds_toArray, List.set_cons_zero, List.set_cons_succ]
        have HO4 := Lib.hid (own_mono (HO3.out.alloc (.cells (u8s (rootF (ds.take H))).toArray 25)) HF1.out.size); have HF4 := Lib.hid (HF3.out.alloc (.cells (u8s (rootF (ds.take H))).toArray 25)); have HB4 := Lib.hid (Blk.new W3 25 (u8s (rootF (ds.take H))).toArray)
        refine seq_only (i := 12) rfl (by kernel_rfl) (by kernel_rfl) ?_
        have hr12 := fun (a : Act) (o : Oper) (K : Act → World → Prop) (Q : Exit → Act → World → Prop) (hgd : o.guard = none) (hd : o.dst = some 38) (ho : o.op = .call { callee := .builtin .append, args := #[.tmp 32, .tmp 37], argTypes := #[22, 22] }) (hs : a.eval (.tmp 32) = v9) (hx : a.eval (.tmp 37) = .slice (some ⟨W3.heap.size, 0, none⟩) 1 1) => @sq_appDg Q o a (W3.alloc (.cells (u8s (rootF (ds.take H))).toArray 25)) K hgd (.tmp 32) (.tmp 37) 38 hd ho w.heap.size v9 (pathF (ds.drop H) (i - H)) hs HO4.out (rootF (ds.take H)) (rootF_length _) W3.heap.size 1 hx HB4.out HLEN.out HF4.out.size
        refine hr12 _ _ _ _ ?_ ?_ ?_ ?_ ?_ ?_
        · kernel_rfl
        · kernel_rfl
        · kernel_rfl
        · kernel_rfl
        · kernel_rfl
        intro v5 W5 ho5 hf5
        have HO5 := Lib.hid ho5; have HF5 := Lib.hid (HF4.out.trans' hf5 (fun x hx => by simp only [Option.mem_toList] at hx; exact .inr (HO4.out.lt x hx).1))
        clear hr12 ho5 hf5
        try simp only [Act.put, List.setIfInBounds_toArray, List.set_cons_zero, List.set_cons_succ]
        refine seq_take (i := 13) (v := v5) (d := 4) rfl (by kernel_rfl) (by kernel_rfl) (by kernel_rfl) (by kernel_rfl) (by kernel_rfl) (fun _ _ _ h => h) ?_ ?_
        · intro w9; kernel_rfl
        try simp only [Act.put, List.setIfInBounds_toArray, List.set_cons_zero, List.set_cons_succ]
        refine wpAnyH_done (by kernel_rfl) ?_ _
        go_wp2_with fail
        go_ret
        refine ⟨pathF_all _ _, v5, rfl, ?_, HF5.out⟩
        rw [HE.out]
        exact HO5.out
end Go.Proofs.Ytmgbimdebhhckaa
