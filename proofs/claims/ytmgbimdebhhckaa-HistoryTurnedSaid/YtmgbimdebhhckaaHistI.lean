/- History, the document's: the rest of a growth. -/
import Derived.Test.YtmgbimdebhhckaaHistH
namespace Go.Proofs.Ytmgbimdebhhckaa
open Go.RowKit
set_option linter.unusedVariables false

set_option maxHeartbeats 4000000 in
theorem rrest_calls (k : Nat) : ∀ (w : World) (A : Option Addr) (n c m : Nat) (own : Bool) (ds : List (List UInt8)), n ≤ k → ds.length = n → n ≤ c → 1 ≤ m → m ≤ n → n ≤ 99999 → DgIn w A ds →
    Calls Try.prog 15 #[.slice A n c, .int .i64 (m : Int), .bool own] w (OwnD w (restF ds m own)) := by
  induction k with
  | zero => intro w A n c m own ds hk hn hc h1 hm hb hD; omega
  | succ k ih =>
    intro w A n c m own ds hk hn hc h1 hm hb hD
    by_cases hmn : m = n
    · subst hmn
      have e := restF_end ds m m own hn rfl
      have HE := Lib.hid e
      have HRT := Lib.hid (rroot_calls m w A m c ds (Nat.le_refl _) hn hc (by omega) hD)
      clear e ih
      cases own with
      | true =>
        go_enter Try.func15, Try.ntmps15
        go_wp2_with fail
        go_ret
        rw [HE.out]
        exact ⟨by simp, _, rfl, World.ownsRow_nil _ _ _ _, Fr.refl _ _⟩
      | false =>
        go_enter Try.func15, Try.ntmps15
        go_wp2_with (first
          | (go_at_call 10; (with_reducible refine HRT.out.mono ?_); rintro e w2 ⟨rfl, f2⟩; have F2 := Lib.hid f2; clear f2)
          | (refine wpList_val (o := ⟨some 15, _, _, _, _, _⟩) rfl (.slice (some ⟨w2.heap.size, 0, none⟩) 1 1) (w2.alloc (.cells (u8s (rootF ds)).toArray 25)) (ex_build_dg rfl w2 (rootF ds) (rootF_length _) (by kernel_rfl)) ?_))
        go_ret
        rw [HE.out]
        exact ⟨by simp [rootF_length], _, rfl, by simpa using ownD_one w2 w (rootF ds) (rootF_length _) F2.out.size, F2.out.alloc _⟩
    · obtain ⟨_, _, g1, g2, g3⟩ := halfN_spec n (by omega) (by omega)
      have HHC := Lib.hid (rhalf_calls w n (by omega) (by omega))
      have he1 := restF_step1 ds n m own hn (by omega) (by omega) (by omega)
      have he2 := restF_step2 ds n m own hn (by omega) (by omega) (by omega)
      obtain ⟨H, hH⟩ : ∃ H, halfN n = H := ⟨_, rfl⟩
      rw [hH] at he1 he2 g1 g2 g3 HHC
      have HDN := Lib.hid hn; have HD := Lib.hid hD
      have HHN := Lib.hid (And.intro g1 (And.intro g2 (And.intro hk (And.intro hc hb))))
      have HRL := Lib.hid (fun (w' : World) (h : Fr [] w w') => rroot_calls H w' A H c (ds.take H) (Nat.le_refl _) (by rw [List.length_take, hn]; omega) (by omega) (by omega) ((hD.fr h).take H))
      have HRR := Lib.hid (fun (w' : World) (h : Fr [] w w') => rroot_calls (n - H) w' (A.map (·.add (H * 32))) (n - H) (c - H) (ds.drop H) (Nat.le_refl _) (by rw [List.length_drop, hn]) (by omega) (by omega) ((hD.fr h).drop H))
      have hI : (2 : Int) ≤ (n : Int) ∧ (n : Int) ≤ 99999 ∧ (n : Int) ≤ (c : Int) ∧ (1 : Int) ≤ (H : Int) ∧ (H : Int) < (n : Int) ∧ (H : Int) < (c : Int) ∧ (1 : Int) ≤ (m : Int) ∧ (m : Int) < (n : Int) := by omega
      have hmI : ((m : Int) == (n : Int)) = false := by rw [beq_eq_false_iff_ne]; omega
      by_cases hmH : m ≤ H
      · have HE := Lib.hid (he1 hmH)
        have HPL := Lib.hid (fun (w' : World) (h : Fr [] w w') => ih w' A H c m own (ds.take H) (by omega) (by rw [List.length_take, hn]; omega) (by omega) h1 hmH (by omega) ((hD.fr h).take H))
        have hiI : (m : Int) ≤ (H : Int) := by omega
        clear he1 he2 ih hk hn hc h1 hm hb hD hmn g1 g2 g3 hH hmH
        go_enter Try.func15, Try.ntmps15
        go_wp2_with (go_at_call 29; (with_reducible refine HHC.out.mono ?_); rintro e w2 ⟨rfl, rfl⟩)
        obtain ⟨W1, hW1⟩ : ∃ W1, w.drew = W1 := ⟨_, rfl⟩
        have HF1 := Lib.hid (show Fr [] w W1 from hW1 ▸ (Fr.refl [] w).drew)
        have HLEN := Lib.hid (restF_small (ds.take H) m own (by simp; have := HDN.out; omega))
        refine seq_begin (by kernel_rfl) ?_
        rw [hW1]
        clear hW1
        refine seq_take (i := 0) (v := (.slice A n c)) (d := 22) rfl (by kernel_rfl) (by kernel_rfl) (by kernel_rfl) (by kernel_rfl) (by kernel_rfl) (fun _ _ _ h => h) ?_ ?_
        · intro w9; kernel_rfl
        try simp only [Act.put, List.setIfInBounds_toArray, List.set_cons_zero, List.set_cons_succ]
        refine seq_take (i := 1) (v := (.int .i64 (H : Int))) (d := 23) rfl (by kernel_rfl) (by kernel_rfl) (by kernel_rfl) (by kernel_rfl) (by kernel_rfl) (fun _ _ _ h => h) ?_ ?_
        · intro w9; kernel_rfl
        try simp only [Act.put, List.setIfInBounds_toArray, List.set_cons_zero, List.set_cons_succ]
        refine seq_take (i := 2) (v := (.slice A H c)) (d := 24) rfl (by kernel_rfl) (by kernel_rfl) (by kernel_rfl) (by kernel_rfl) (by kernel_rfl) (fun _ _ _ h => h) ?_ ?_
        · intro w9; go_simp; intro h; have := HHN.out; omega
        try simp only [Act.put, List.setIfInBounds_toArray, List.set_cons_zero, List.set_cons_succ]
        refine seq_take (i := 3) (v := (.int .i64 (m : Int))) (d := 25) rfl (by kernel_rfl) (by kernel_rfl) (by kernel_rfl) (by kernel_rfl) (by kernel_rfl) (fun _ _ _ h => h) ?_ ?_
        · intro w9; kernel_rfl
        try simp only [Act.put, List.setIfInBounds_toArray, List.set_cons_zero, List.set_cons_succ]
        refine seq_take (i := 4) (v := (.bool own)) (d := 26) rfl (by kernel_rfl) (by kernel_rfl) (by kernel_rfl) (by kernel_rfl) (by kernel_rfl) (fun _ _ _ h => h) ?_ ?_
        · intro w9; kernel_rfl
        try simp only [Act.put, List.setIfInBounds_toArray, List.set_cons_zero, List.set_cons_succ]
        refine seq_take (i := 6) (v := (.slice A n c)) (d := 28) rfl (by kernel_rfl) (by kernel_rfl) (by kernel_rfl) (by kernel_rfl) (by kernel_rfl) (fun _ _ _ h => h) ?_ ?_
        · intro w9; kernel_rfl
        try simp only [Act.put, List.setIfInBounds_toArray, List.set_cons_zero, List.set_cons_succ]
        refine seq_take (i := 7) (v := (.int .i64 (H : Int))) (d := 29) rfl (by kernel_rfl) (by kernel_rfl) (by kernel_rfl) (by kernel_rfl) (by kernel_rfl) (fun _ _ _ h => h) ?_ ?_
        · intro w9; kernel_rfl
        try simp only [Act.put, List.setIfInBounds_toArray, List.set_cons_zero, List.set_cons_succ]
        refine seq_take (i := 8) (v := (.slice (A.map (·.add (H * 32))) (n - H) (c - H))) (d := 30) rfl (by kernel_rfl) (by kernel_rfl) (by kernel_rfl) (by kernel_rfl) (by kernel_rfl) (fun _ _ _ h => h) ?_ ?_
        · intro w9; go_simp; rw [if_pos (by have := HHN.out; omega), if_neg (by have := HHN.out; omega)]
        try simp only [Act.put, List.setIfInBounds_toArray, List.set_cons_zero, List.set_cons_succ]
        refine seq_only (i := 5) rfl (by kernel_rfl) (by kernel_rfl) ?_
        have hr5 := fun (a : Act) (o : Oper) (K : Act → World → Prop) (Q : Exit → Act → World → Prop) => @sq_call Try.prog Q a o W1 K (OwnD W1 (restF (ds.take H) m own)) 15 #[.slice A H c, .int .i64 (m : Int), .bool own] 27
        refine hr5 _ _ _ _ ?_ ?_ ?_ ?_
        · kernel_rfl
        · kernel_rfl
        · exact HPL.out W1 HF1.out
        rintro e W2 ⟨hps, v9, rfl, ho9, f9⟩
        have HPS := Lib.hid hps; have HO2 := Lib.hid ho9; have HF2 := Lib.hid (HF1.out.trans f9)
        clear hps ho9 f9
        refine ⟨_, rfl, ?_⟩
        clear hr5
        try simp only [Act.put, List.setIfInBounds_toArray, List.set_cons_zero, List.set_cons_succ]
        refine seq_only (i := 9) rfl (by kernel_rfl) (by kernel_rfl) ?_
        have hr9 := fun (a : Act) (o : Oper) (K : Act → World → Prop) (Q : Exit → Act → World → Prop) => @sq_call Try.prog Q a o W2 K (Agg (.agg (u8s (rootF (ds.drop H))).toArray) W2) 10 #[.slice (A.map (·.add (H * 32))) (n - H) (c - H)] 31
        refine hr9 _ _ _ _ ?_ ?_ ?_ ?_
        · kernel_rfl
        · kernel_rfl
        · exact HRR.out W2 HF2.out
        rintro e W3 ⟨rfl, f9⟩
        have HF3 := Lib.hid (HF2.out.trans f9)
        have HO3 := Lib.hid (own_fr HO2.out f9 (by simp))
        clear f9
        refine ⟨_, rfl, ?_⟩
        clear hr9
        try simp only [Act.put, List.setIfInBounds_toArray, List.set_cons_zero, List.set_cons_succ]
        refine seq_only (i := 10) rfl (by kernel_rfl) (by kernel_rfl) ?_
        have hr10 := fun (a : Act) (o : Oper) (K : Act → World → Prop) (Q : Exit → Act → World → Prop) => @sq_val Try.prog Q a o W3 K (.slice (some ⟨W3.heap.size, 0, none⟩) 1 1) (W3.alloc (.cells (u8s (rootF (ds.drop H))).toArray 25)) 32
        refine hr10 _ _ _ _ ?_ ?_ ?_
        · kernel_rfl
        · refine ex_build_dg rfl W3 (rootF (ds.drop H)) (rootF_length _) (by kernel_rfl)
        clear hr10
        try simp only [Act.put, List.setIfInBounds_toArray, List.set_cons_zero, List.set_cons_succ]
        have HO4 := Lib.hid (own_mono (HO3.out.alloc (.cells (u8s (rootF (ds.drop H))).toArray 25)) HF1.out.size); have HF4 := Lib.hid (HF3.out.alloc (.cells (u8s (rootF (ds.drop H))).toArray 25)); have HB4 := Lib.hid (Blk.new W3 25 (u8s (rootF (ds.drop H))).toArray)
        refine seq_only (i := 11) rfl (by kernel_rfl) (by kernel_rfl) ?_
        have hr11 := fun (a : Act) (o : Oper) (K : Act → World → Prop) (Q : Exit → Act → World → Prop) (hgd : o.guard = none) (hd : o.dst = some 33) (ho : o.op = .call { callee := .builtin .append, args := #[.tmp 27, .tmp 32], argTypes := #[22, 22] }) (hs : a.eval (.tmp 27) = v9) (hx : a.eval (.tmp 32) = .slice (some ⟨W3.heap.size, 0, none⟩) 1 1) => @sq_appDg Q o a (W3.alloc (.cells (u8s (rootF (ds.drop H))).toArray 25)) K hgd (.tmp 27) (.tmp 32) 33 hd ho w.heap.size v9 (restF (ds.take H) m own) hs HO4.out (rootF (ds.drop H)) (rootF_length _) W3.heap.size 1 hx HB4.out HLEN.out HF4.out.size
        refine hr11 _ _ _ _ ?_ ?_ ?_ ?_ ?_ ?_
        · kernel_rfl
        · kernel_rfl
        · kernel_rfl
        · kernel_rfl
        · kernel_rfl
        intro v5 W5 ho5 hf5
        have HO5 := Lib.hid ho5; have HF5 := Lib.hid (HF4.out.trans' hf5 (fun x hx => by simp only [Option.mem_toList] at hx; exact .inr (HO4.out.lt x hx).1))
        clear hr11 ho5 hf5
        try simp only [Act.put, List.setIfInBounds_toArray, List.set_cons_zero, List.set_cons_succ]
        refine seq_take (i := 12) (v := v5) (d := 6) rfl (by kernel_rfl) (by kernel_rfl) (by kernel_rfl) (by kernel_rfl) (by kernel_rfl) (fun _ _ _ h => h) ?_ ?_
        · intro w9; kernel_rfl
        try simp only [Act.put, List.setIfInBounds_toArray, List.set_cons_zero, List.set_cons_succ]
        refine wpAnyH_done (by kernel_rfl) ?_ _
        go_wp2_with fail
        go_ret
        refine ⟨restF_all _ _ _, v5, rfl, ?_, HF5.out⟩
        rw [HE.out]
        exact HO5.out
      · have HE := Lib.hid (he2 hmH)
        have hps := fun (w' : World) (h : Fr [] w w') => ih w' (A.map (·.add (H * 32))) (n - H) (c - H) (m - H) false (ds.drop H) (by omega) (by rw [List.length_drop, hn]) (by omega) (by omega) (by omega) (by omega) ((hD.fr h).drop H)
        rw [show ((m - H : Nat) : Int) = (m : Int) - (H : Int) by omega] at hps
        have HPR := Lib.hid hps
        have hiI : (H : Int) < (m : Int) := by omega
        clear he1 he2 ih hk hn hc h1 hm hb hD hmn g1 g2 g3 hH hmH hps
        go_enter Try.func15, Try.ntmps15
        go_wp2_with (go_at_call 29; (with_reducible refine HHC.out.mono ?_); rintro e w2 ⟨rfl, rfl⟩)
        obtain ⟨W1, hW1⟩ : ∃ W1, w.drew = W1 := ⟨_, rfl⟩
        have HF1 := Lib.hid (show Fr [] w W1 from hW1 ▸ (Fr.refl [] w).drew)
        have HLEN := Lib.hid (restF_small (ds.drop H) (m - H) false (by simp; have := HDN.out; omega))
        refine seq_begin (by kernel_rfl) ?_
        rw [hW1]
        clear hW1
        refine seq_take (i := 0) (v := (.slice A n c)) (d := 34) rfl (by kernel_rfl) (by kernel_rfl) (by kernel_rfl) (by kernel_rfl) (by kernel_rfl) (fun _ _ _ h => h) ?_ ?_
        · intro w9; kernel_rfl
        try simp only [Act.put, List.setIfInBounds_toArray, List.set_cons_zero, List.set_cons_succ]
        refine seq_take (i := 1) (v := (.int .i64 (H : Int))) (d := 35) rfl (by kernel_rfl) (by kernel_rfl) (by kernel_rfl) (by kernel_rfl) (by kernel_rfl) (fun _ _ _ h => h) ?_ ?_
        · intro w9; kernel_rfl
        try simp only [Act.put, List.setIfInBounds_toArray, List.set_cons_zero, List.set_cons_succ]
        refine seq_take (i := 2) (v := (.slice (A.map (·.add (H * 32))) (n - H) (c - H))) (d := 36) rfl (by kernel_rfl) (by kernel_rfl) (by kernel_rfl) (by kernel_rfl) (by kernel_rfl) (fun _ _ _ h => h) ?_ ?_
        · intro w9; go_simp; rw [if_pos (by have := HHN.out; omega), if_neg (by have := HHN.out; omega)]
        try simp only [Act.put, List.setIfInBounds_toArray, List.set_cons_zero, List.set_cons_succ]
        refine seq_take (i := 3) (v := (.int .i64 (m : Int))) (d := 37) rfl (by kernel_rfl) (by kernel_rfl) (by kernel_rfl) (by kernel_rfl) (by kernel_rfl) (fun _ _ _ h => h) ?_ ?_
        · intro w9; kernel_rfl
        try simp only [Act.put, List.setIfInBounds_toArray, List.set_cons_zero, List.set_cons_succ]
        refine seq_take (i := 4) (v := (.int .i64 (H : Int))) (d := 38) rfl (by kernel_rfl) (by kernel_rfl) (by kernel_rfl) (by kernel_rfl) (by kernel_rfl) (fun _ _ _ h => h) ?_ ?_
        · intro w9; kernel_rfl
        try simp only [Act.put, List.setIfInBounds_toArray, List.set_cons_zero, List.set_cons_succ]
        refine seq_take (i := 5) (v := (.int .i64 ((m : Int) - (H : Int)))) (d := 39) rfl (by kernel_rfl) (by kernel_rfl) (by kernel_rfl) (by kernel_rfl) (by kernel_rfl) (fun _ _ _ h => h) ?_ ?_
        · intro w9; go_simp; rw [IntKind.wrap_i64]; omega
        try simp only [Act.put, List.setIfInBounds_toArray, List.set_cons_zero, List.set_cons_succ]
        refine seq_take (i := 7) (v := (.slice A n c)) (d := 41) rfl (by kernel_rfl) (by kernel_rfl) (by kernel_rfl) (by kernel_rfl) (by kernel_rfl) (fun _ _ _ h => h) ?_ ?_
        · intro w9; kernel_rfl
        try simp only [Act.put, List.setIfInBounds_toArray, List.set_cons_zero, List.set_cons_succ]
        refine seq_take (i := 8) (v := (.int .i64 (H : Int))) (d := 42) rfl (by kernel_rfl) (by kernel_rfl) (by kernel_rfl) (by kernel_rfl) (by kernel_rfl) (fun _ _ _ h => h) ?_ ?_
        · intro w9; kernel_rfl
        try simp only [Act.put, List.setIfInBounds_toArray, List.set_cons_zero, List.set_cons_succ]
        refine seq_take (i := 9) (v := (.slice A H c)) (d := 43) rfl (by kernel_rfl) (by kernel_rfl) (by kernel_rfl) (by kernel_rfl) (by kernel_rfl) (fun _ _ _ h => h) ?_ ?_
        · intro w9; go_simp; intro h; have := HHN.out; omega
        try simp only [Act.put, List.setIfInBounds_toArray, List.set_cons_zero, List.set_cons_succ]
        refine seq_only (i := 6) rfl (by kernel_rfl) (by kernel_rfl) ?_
        have hr6 := fun (a : Act) (o : Oper) (K : Act → World → Prop) (Q : Exit → Act → World → Prop) => @sq_call Try.prog Q a o W1 K (OwnD W1 (restF (ds.drop H) (m - H) false)) 15 #[.slice (A.map (·.add (H * 32))) (n - H) (c - H), .int .i64 ((m : Int) - (H : Int)), .bool false] 40
        refine hr6 _ _ _ _ ?_ ?_ ?_ ?_
        · kernel_rfl
        · kernel_rfl
        · exact HPR.out W1 HF1.out
        rintro e W2 ⟨hps, v9, rfl, ho9, f9⟩
        have HPS := Lib.hid hps; have HO2 := Lib.hid ho9; have HF2 := Lib.hid (HF1.out.trans f9)
        clear hps ho9 f9
        refine ⟨_, rfl, ?_⟩
        clear hr6
        try simp only [Act.put, List.setIfInBounds_toArray, List.set_cons_zero, List.set_cons_succ]
        refine seq_only (i := 10) rfl (by kernel_rfl) (by kernel_rfl) ?_
        have hr10 := fun (a : Act) (o : Oper) (K : Act → World → Prop) (Q : Exit → Act → World → Prop) => @sq_call Try.prog Q a o W2 K (Agg (.agg (u8s (rootF (ds.take H))).toArray) W2) 10 #[.slice A H c] 44
        refine hr10 _ _ _ _ ?_ ?_ ?_ ?_
        · kernel_rfl
        · kernel_rfl
        · exact HRL.out W2 HF2.out
        rintro e W3 ⟨rfl, f9⟩
        have HF3 := Lib.hid (HF2.out.trans f9)
        have HO3 := Lib.hid (own_fr HO2.out f9 (by simp))
        clear f9
        refine ⟨_, rfl, ?_⟩
        clear hr10
        try simp only [Act.put, List.setIfInBounds_toArray, List.set_cons_zero, List.set_cons_succ]
        refine seq_only (i := 11) rfl (by kernel_rfl) (by kernel_rfl) ?_
        have hr11 := fun (a : Act) (o : Oper) (K : Act → World → Prop) (Q : Exit → Act → World → Prop) => @sq_val Try.prog Q a o W3 K (.slice (some ⟨W3.heap.size, 0, none⟩) 1 1) (W3.alloc (.cells (u8s (rootF (ds.take H))).toArray 25)) 45
        refine hr11 _ _ _ _ ?_ ?_ ?_
        · kernel_rfl
        · refine ex_build_dg rfl W3 (rootF (ds.take H)) (rootF_length _) (by kernel_rfl)
        clear hr11
        try simp only [Act.put, List.setIfInBounds_toArray, List.set_cons_zero, List.set_cons_succ]
        have HO4 := Lib.hid (own_mono (HO3.out.alloc (.cells (u8s (rootF (ds.take H))).toArray 25)) HF1.out.size); have HF4 := Lib.hid (HF3.out.alloc (.cells (u8s (rootF (ds.take H))).toArray 25)); have HB4 := Lib.hid (Blk.new W3 25 (u8s (rootF (ds.take H))).toArray)
        refine seq_only (i := 12) rfl (by kernel_rfl) (by kernel_rfl) ?_
        have hr12 := fun (a : Act) (o : Oper) (K : Act → World → Prop) (Q : Exit → Act → World → Prop) (hgd : o.guard = none) (hd : o.dst = some 46) (ho : o.op = .call { callee := .builtin .append, args := #[.tmp 40, .tmp 45], argTypes := #[22, 22] }) (hs : a.eval (.tmp 40) = v9) (hx : a.eval (.tmp 45) = .slice (some ⟨W3.heap.size, 0, none⟩) 1 1) => @sq_appDg Q o a (W3.alloc (.cells (u8s (rootF (ds.take H))).toArray 25)) K hgd (.tmp 40) (.tmp 45) 46 hd ho w.heap.size v9 (restF (ds.drop H) (m - H) false) hs HO4.out (rootF (ds.take H)) (rootF_length _) W3.heap.size 1 hx HB4.out HLEN.out HF4.out.size
        refine hr12 _ _ _ _ ?_ ?_ ?_ ?_ ?_ ?_
        · kernel_rfl
        · kernel_rfl
        · kernel_rfl
        · kernel_rfl
        · kernel_rfl
        intro v5 W5 ho5 hf5
        have HO5 := Lib.hid ho5; have HF5 := Lib.hid (HF4.out.trans' hf5 (fun x hx => by simp only [Option.mem_toList] at hx; exact .inr (HO4.out.lt x hx).1))
        clear hr12 ho5 hf5
        try simp only [Act.put, List.setIfInBounds_toArray, List.set_cons_zero, List.set_cons_succ]
        refine seq_take (i := 13) (v := v5) (d := 6) rfl (by kernel_rfl) (by kernel_rfl) (by kernel_rfl) (by kernel_rfl) (by kernel_rfl) (fun _ _ _ h => h) ?_ ?_
        · intro w9; kernel_rfl
        try simp only [Act.put, List.setIfInBounds_toArray, List.set_cons_zero, List.set_cons_succ]
        refine wpAnyH_done (by kernel_rfl) ?_ _
        go_wp2_with fail
        go_ret
        refine ⟨restF_all _ _ _, v5, rfl, ?_, HF5.out⟩
        rw [HE.out]
        exact HO5.out
end Go.Proofs.Ytmgbimdebhhckaa
