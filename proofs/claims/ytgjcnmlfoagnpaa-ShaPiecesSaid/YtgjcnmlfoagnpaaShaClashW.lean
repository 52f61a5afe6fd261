/- The walk of ShaClash. -/
import Derived.Test.YtgjcnmlfoagnpaaShaK
namespace Go.Proofs.Ytgjcnmlfoagnpaa
open Go.RowKit
set_option linter.unusedVariables false

theorem OldW.trans {a b c : World} (h : OldW a b) (k : Fr [] b c) : OldW a c := Fr.trans h k
set_option maxHeartbeats 8000000 in
set_option maxRecDepth 100000 in
theorem clash_walk (w : World) (A B : Option Addr) (c d : Nat) (la lb : List UInt8) (hA : Rd w A la) (hB : Rd w B lb) (hla : la.length ≤ maxLen) (hlb : lb.length ≤ maxLen) :
    Calls Try.prog 6 #[.slice A la.length c, .slice B lb.length d] w (QuietS (.bool true) w) := by
  unfold maxLen at hla hlb
  have HAL := Lib.hid (alive_calls w)
  obtain ⟨n, hn⟩ : ∃ n, la.length = n := ⟨_, rfl⟩
  obtain ⟨m, hm⟩ : ∃ m, lb.length = m := ⟨_, rfl⟩
  rw [hn] at hla ⊢
  rw [hm] at hlb ⊢
  have HN := Lib.hid hn; have HM := Lib.hid hm
  have HA0 := Lib.hid hA; have HB0 := Lib.hid hB
  clear hA hB hn hm
  by_cases h1 : 300 < n
  · have hI : (300 : Int) < (n : Int) := by omega
    go_enter Try.func6, Try.ntmps6
    go_wp2_with (go_at_call 8; (with_reducible refine HAL.out.mono ?_); rintro e w1 ⟨rfl, f1⟩; have F1 := Lib.hid f1; clear f1)
    go_ret
    exact ⟨rfl, F1.out⟩
  by_cases h2 : 300 < m
  · have hI : (300 : Int) < (m : Int) := by omega
    have hI1 : (n : Int) ≤ 300 := by omega
    go_enter Try.func6, Try.ntmps6
    go_wp2_with (go_at_call 8; (with_reducible refine HAL.out.mono ?_); rintro e w1 ⟨rfl, f1⟩; have F1 := Lib.hid f1; clear f1)
    go_ret
    exact ⟨rfl, F1.out⟩
  have hI1 : (n : Int) ≤ 300 := by omega
  have hI2 : (m : Int) ≤ 300 := by omega
  have hnb : n ≤ 100000000 := by omega
  have hmb : m ≤ 100000000 := by omega
  have hb0 : (0 : Int) ≤ (n : Int) ∧ (0 : Int) ≤ (m : Int) := by omega
  clear h1 h2 hla hlb
  go_enter Try.func6, Try.ntmps6
  go_wp2_with (go_at_call 8; (with_reducible refine HAL.out.mono ?_); rintro e w1 ⟨rfl, f1⟩; have F1 := Lib.hid f1; clear f1)
  have HA := Lib.hid (fun (w' : World) (h : OldW w1 w') => HA0.out.fr (F1.out.trans h) (by simp))
  have HB := Lib.hid (fun (w' : World) (h : OldW w1 w') => HB0.out.fr (F1.out.trans h) (by simp))
  have HCL0 := Lib.hid (fun (w' : World) (h : OldW w1 w') => clash_calls w' A n c la HN.out (HA.out w' h) B m d lb HM.out (HB.out w' h) hnb hmb)
  have hcs := fun (w' : World) (h : OldW w1 w') => clash_calls w' A n c la HN.out (HA.out w' h) A n c la HN.out (HA.out w' h) hnb hnb
  simp only [clB_same] at hcs
  have HCS := Lib.hid hcs
  have HRA := Lib.hid (fun (w' : World) (h : OldW w1 w') => rsum_calls w' A n c la HN.out (HA.out w' h) hnb)
  have HRB := Lib.hid (fun (w' : World) (h : OldW w1 w') => rsum_calls w' B m d lb HM.out (HB.out w' h) hmb)
  clear hcs
  by_cases hab : la = lb
  · have HAB := Lib.hid (show (la == lb) = !false by simpa using hab)
    have hcl := HCL0.out
    rw [show clB la lb = false by rw [hab, clB_same]] at hcl
    have HCL := Lib.hid hcl
    clear hcl hab HCL0
    obtain ⟨W0, hW0⟩ : ∃ W0, w1.drew = W0 := ⟨_, rfl⟩
    have hSW0 : OldW w1 W0 := hW0 ▸ (Fr.refl [] w1).drew
    refine sqo_begin (w0 := w1) (by kernel_rfl) ?_
    rw [hW0]
    clear hW0
    refine sqo_take (i := 0) (v := (.slice A n c)) (d := 15) rfl (by kernel_rfl) (by kernel_rfl) (by kernel_rfl) (by kernel_rfl) (by kernel_rfl) (fun _ _ _ h => h) ?_ (by assumption) ?_
    · intro w9 h9; kernel_rfl
    try simp only [Act.put, List.setIfInBounds_toArray, List.set_cons_zero, List.set_cons_succ]
    refine sqo_take (i := 1) (v := (.slice B m d)) (d := 16) rfl (by kernel_rfl) (by kernel_rfl) (by kernel_rfl) (by kernel_rfl) (by kernel_rfl) (fun _ _ _ h => h) ?_ (by assumption) ?_
    · intro w9 h9; kernel_rfl
    try simp only [Act.put, List.setIfInBounds_toArray, List.set_cons_zero, List.set_cons_succ]
    refine sqo_take (i := 3) (v := (.slice A n c)) (d := 18) rfl (by kernel_rfl) (by kernel_rfl) (by kernel_rfl) (by kernel_rfl) (by kernel_rfl) (fun _ _ _ h => h) ?_ (by assumption) ?_
    · intro w9 h9; kernel_rfl
    try simp only [Act.put, List.setIfInBounds_toArray, List.set_cons_zero, List.set_cons_succ]
    refine sqo_take (i := 5) (v := (.slice B m d)) (d := 20) rfl (by kernel_rfl) (by kernel_rfl) (by kernel_rfl) (by kernel_rfl) (by kernel_rfl) (fun _ _ _ h => h) ?_ (by assumption) ?_
    · intro w9 h9; kernel_rfl
    try simp only [Act.put, List.setIfInBounds_toArray, List.set_cons_zero, List.set_cons_succ]
    refine sqo_take (i := 4) (v := (.string (str la))) (d := 19) rfl (by kernel_rfl) (by kernel_rfl) (by kernel_rfl) (by kernel_rfl) (by kernel_rfl) (fun _ _ _ h => h) ?_ (by assumption) ?_
    · intro w9 h9; exact exec_conv_str (l := la) (c := c) rfl Try.underlying22 Try.underlying5 Try.underlying9 (by rw [HN.out]; kernel_rfl) (HA.out w9 h9)
    try simp only [Act.put, List.setIfInBounds_toArray, List.set_cons_zero, List.set_cons_succ]
    refine sqo_take (i := 6) (v := (.string (str lb))) (d := 21) rfl (by kernel_rfl) (by kernel_rfl) (by kernel_rfl) (by kernel_rfl) (by kernel_rfl) (fun _ _ _ h => h) ?_ (by assumption) ?_
    · intro w9 h9; exact exec_conv_str (l := lb) (c := d) rfl Try.underlying22 Try.underlying5 Try.underlying9 (by rw [HM.out]; kernel_rfl) (HB.out w9 h9)
    try simp only [Act.put, List.setIfInBounds_toArray, List.set_cons_zero, List.set_cons_succ]
    refine sqo_take (i := 7) (v := (.bool false)) (d := 22) rfl (by kernel_rfl) (by kernel_rfl) (by kernel_rfl) (by kernel_rfl) (by kernel_rfl) (fun _ _ _ h => h) ?_ (by assumption) ?_
    · intro w9 h9; exact ex_neq_str rfl (by kernel_rfl) (by kernel_rfl) HAB.out
    try simp only [Act.put, List.setIfInBounds_toArray, List.set_cons_zero, List.set_cons_succ]
    refine sqo_only (i := 2) rfl (by kernel_rfl) (by kernel_rfl) ?_
    have hr2 := fun (a : Act) (o : Oper) (K : Act → World → Prop) (Q : Exit → Act → World → Prop) => @sq_call Try.prog Q a o W0 K (QuietS (.bool false) W0) 18 #[.slice A n c, .slice B m d] 17
    refine hr2 _ _ _ _ ?_ ?_ ?_ ?_
    · kernel_rfl
    · kernel_rfl
    · exact HCL.out W0 hSW0
    rintro e W1 ⟨rfl, f9⟩
    have hfW1 := OldW.trans hSW0 f9
    refine ⟨_, rfl, hfW1, ?_⟩
    have hSW1 := hfW1
    clear hr2 f9 hfW1
    try simp only [Act.put, List.setIfInBounds_toArray, List.set_cons_zero, List.set_cons_succ]
    refine sqo_take (i := 8) (v := (.bool false)) (d := 23) rfl (by kernel_rfl) (by kernel_rfl) (by kernel_rfl) (by kernel_rfl) (by kernel_rfl) (fun _ _ _ h => h) ?_ (by assumption) ?_
    · intro w9 h9; kernel_rfl
    try simp only [Act.put, List.setIfInBounds_toArray, List.set_cons_zero, List.set_cons_succ]
    refine sqo_pass (i := 9) (d := 24) rfl (by kernel_rfl) (by kernel_rfl) (by kernel_rfl) (by kernel_rfl) (by kernel_rfl) (fun _ _ _ h => h) (by assumption) ?_
    try simp only [Act.put, List.setIfInBounds_toArray, List.set_cons_zero, List.set_cons_succ]
    refine sqo_pass (i := 10) (d := 25) rfl (by kernel_rfl) (by kernel_rfl) (by kernel_rfl) (by kernel_rfl) (by kernel_rfl) (fun _ _ _ h => h) (by assumption) ?_
    try simp only [Act.put, List.setIfInBounds_toArray, List.set_cons_zero, List.set_cons_succ]
    refine sqo_pass (i := 11) (d := 26) rfl (by kernel_rfl) (by kernel_rfl) (by kernel_rfl) (by kernel_rfl) (by kernel_rfl) (fun _ _ _ h => h) (by assumption) ?_
    try simp only [Act.put, List.setIfInBounds_toArray, List.set_cons_zero, List.set_cons_succ]
    refine sqo_pass (i := 12) (d := 27) rfl (by kernel_rfl) (by kernel_rfl) (by kernel_rfl) (by kernel_rfl) (by kernel_rfl) (fun _ _ _ h => h) (by assumption) ?_
    try simp only [Act.put, List.setIfInBounds_toArray, List.set_cons_zero, List.set_cons_succ]
    refine sqo_pass (i := 13) (d := 28) rfl (by kernel_rfl) (by kernel_rfl) (by kernel_rfl) (by kernel_rfl) (by kernel_rfl) (fun _ _ _ h => h) (by assumption) ?_
    try simp only [Act.put, List.setIfInBounds_toArray, List.set_cons_zero, List.set_cons_succ]
    refine sqo_take (i := 14) (v := (.bool false)) (d := 29) rfl (by kernel_rfl) (by kernel_rfl) (by kernel_rfl) (by kernel_rfl) (by kernel_rfl) (fun _ _ _ h => h) ?_ (by assumption) ?_
    · intro w9 h9; kernel_rfl
    try simp only [Act.put, List.setIfInBounds_toArray, List.set_cons_zero, List.set_cons_succ]
    refine sqo_take (i := 15) (v := (.bool true)) (d := 30) rfl (by kernel_rfl) (by kernel_rfl) (by kernel_rfl) (by kernel_rfl) (by kernel_rfl) (fun _ _ _ h => h) ?_ (by assumption) ?_
    · intro w9 h9; kernel_rfl
    try simp only [Act.put, List.setIfInBounds_toArray, List.set_cons_zero, List.set_cons_succ]
    refine sqo_take (i := 16) (v := (.bool true)) (d := 31) rfl (by kernel_rfl) (by kernel_rfl) (by kernel_rfl) (by kernel_rfl) (by kernel_rfl) (fun _ _ _ h => h) ?_ (by assumption) ?_
    · intro w9 h9; kernel_rfl
    try simp only [Act.put, List.setIfInBounds_toArray, List.set_cons_zero, List.set_cons_succ]
    refine sqo_take (i := 17) (v := (.slice A n c)) (d := 32) rfl (by kernel_rfl) (by kernel_rfl) (by kernel_rfl) (by kernel_rfl) (by kernel_rfl) (fun _ _ _ h => h) ?_ (by assumption) ?_
    · intro w9 h9; kernel_rfl
    try simp only [Act.put, List.setIfInBounds_toArray, List.set_cons_zero, List.set_cons_succ]
    refine sqo_take (i := 18) (v := (.slice A n c)) (d := 33) rfl (by kernel_rfl) (by kernel_rfl) (by kernel_rfl) (by kernel_rfl) (by kernel_rfl) (fun _ _ _ h => h) ?_ (by assumption) ?_
    · intro w9 h9; kernel_rfl
    try simp only [Act.put, List.setIfInBounds_toArray, List.set_cons_zero, List.set_cons_succ]
    refine sqo_only (i := 19) rfl (by kernel_rfl) (by kernel_rfl) ?_
    have hr19 := fun (a : Act) (o : Oper) (K : Act → World → Prop) (Q : Exit → Act → World → Prop) => @sq_call Try.prog Q a o W1 K (QuietS (.bool false) W1) 18 #[.slice A n c, .slice A n c] 34
    refine hr19 _ _ _ _ ?_ ?_ ?_ ?_
    · kernel_rfl
    · kernel_rfl
    · exact HCS.out W1 hSW1
    rintro e W4 ⟨rfl, f9⟩
    have hfW4 := OldW.trans hSW1 f9
    refine ⟨_, rfl, hfW4, ?_⟩
    have hSW4 := hfW4
    clear hr19 f9 hfW4
    try simp only [Act.put, List.setIfInBounds_toArray, List.set_cons_zero, List.set_cons_succ]
    refine sqo_take (i := 20) (v := (.bool true)) (d := 35) rfl (by kernel_rfl) (by kernel_rfl) (by kernel_rfl) (by kernel_rfl) (by kernel_rfl) (fun _ _ _ h => h) ?_ (by assumption) ?_
    · intro w9 h9; kernel_rfl
    try simp only [Act.put, List.setIfInBounds_toArray, List.set_cons_zero, List.set_cons_succ]
    refine sqo_take (i := 21) (v := (.bool true)) (d := 36) rfl (by kernel_rfl) (by kernel_rfl) (by kernel_rfl) (by kernel_rfl) (by kernel_rfl) (fun _ _ _ h => h) ?_ (by assumption) ?_
    · intro w9 h9; kernel_rfl
    try simp only [Act.put, List.setIfInBounds_toArray, List.set_cons_zero, List.set_cons_succ]
    refine sqo_take (i := 22) (v := (.bool true)) (d := 4) rfl (by kernel_rfl) (by kernel_rfl) (by kernel_rfl) (by kernel_rfl) (by kernel_rfl) (fun _ _ _ h => h) ?_ (by assumption) ?_
    · intro w9 h9; kernel_rfl
    try simp only [Act.put, List.setIfInBounds_toArray, List.set_cons_zero, List.set_cons_succ]
    refine wpAnyH_done (by kernel_rfl) ?_ _
    go_wp2_with fail
    go_ret
    exact ⟨rfl, F1.out.trans hSW4⟩
  · have HAB := Lib.hid (show (la == lb) = !true by simpa using hab)
    have hx : clB la lb = (shaB la == shaB lb) := by unfold clB; rw [show (la == lb) = false by simpa using hab]; rfl
    have hcl := HCL0.out
    rw [hx] at hcl
    obtain ⟨eb, heb⟩ : ∃ eb, (shaB la == shaB lb) = eb := ⟨_, rfl⟩
    rw [heb] at hcl
    have HCL := Lib.hid hcl; have HEB := Lib.hid heb
    clear hcl hab HCL0 hx heb
    cases eb with
    | false =>
      obtain ⟨W0, hW0⟩ : ∃ W0, w1.drew = W0 := ⟨_, rfl⟩
      have hSW0 : OldW w1 W0 := hW0 ▸ (Fr.refl [] w1).drew
      refine sqo_begin (w0 := w1) (by kernel_rfl) ?_
      rw [hW0]
      clear hW0
      refine sqo_take (i := 0) (v := (.slice A n c)) (d := 15) rfl (by kernel_rfl) (by kernel_rfl) (by kernel_rfl) (by kernel_rfl) (by kernel_rfl) (fun _ _ _ h => h) ?_ (by assumption) ?_
      · intro w9 h9; kernel_rfl
      try simp only [Act.put, List.setIfInBounds_toArray, List.set_cons_zero, List.set_cons_succ]
      refine sqo_take (i := 1) (v := (.slice B m d)) (d := 16) rfl (by kernel_rfl) (by kernel_rfl) (by kernel_rfl) (by kernel_rfl) (by kernel_rfl) (fun _ _ _ h => h) ?_ (by assumption) ?_
      · intro w9 h9; kernel_rfl
      try simp only [Act.put, List.setIfInBounds_toArray, List.set_cons_zero, List.set_cons_succ]
      refine sqo_take (i := 3) (v := (.slice A n c)) (d := 18) rfl (by kernel_rfl) (by kernel_rfl) (by kernel_rfl) (by kernel_rfl) (by kernel_rfl) (fun _ _ _ h => h) ?_ (by assumption) ?_
      · intro w9 h9; kernel_rfl
      try simp only [Act.put, List.setIfInBounds_toArray, List.set_cons_zero, List.set_cons_succ]
      refine sqo_take (i := 5) (v := (.slice B m d)) (d := 20) rfl (by kernel_rfl) (by kernel_rfl) (by kernel_rfl) (by kernel_rfl) (by kernel_rfl) (fun _ _ _ h => h) ?_ (by assumption) ?_
      · intro w9 h9; kernel_rfl
      try simp only [Act.put, List.setIfInBounds_toArray, List.set_cons_zero, List.set_cons_succ]
      refine sqo_take (i := 4) (v := (.string (str la))) (d := 19) rfl (by kernel_rfl) (by kernel_rfl) (by kernel_rfl) (by kernel_rfl) (by kernel_rfl) (fun _ _ _ h => h) ?_ (by assumption) ?_
      · intro w9 h9; exact exec_conv_str (l := la) (c := c) rfl Try.underlying22 Try.underlying5 Try.underlying9 (by rw [HN.out]; kernel_rfl) (HA.out w9 h9)
      try simp only [Act.put, List.setIfInBounds_toArray, List.set_cons_zero, List.set_cons_succ]
      refine sqo_take (i := 6) (v := (.string (str lb))) (d := 21) rfl (by kernel_rfl) (by kernel_rfl) (by kernel_rfl) (by kernel_rfl) (by kernel_rfl) (fun _ _ _ h => h) ?_ (by assumption) ?_
      · intro w9 h9; exact exec_conv_str (l := lb) (c := d) rfl Try.underlying22 Try.underlying5 Try.underlying9 (by rw [HM.out]; kernel_rfl) (HB.out w9 h9)
      try simp only [Act.put, List.setIfInBounds_toArray, List.set_cons_zero, List.set_cons_succ]
      refine sqo_take (i := 7) (v := (.bool true)) (d := 22) rfl (by kernel_rfl) (by kernel_rfl) (by kernel_rfl) (by kernel_rfl) (by kernel_rfl) (fun _ _ _ h => h) ?_ (by assumption) ?_
      · intro w9 h9; exact ex_neq_str rfl (by kernel_rfl) (by kernel_rfl) HAB.out
      try simp only [Act.put, List.setIfInBounds_toArray, List.set_cons_zero, List.set_cons_succ]
      refine sqo_only (i := 2) rfl (by kernel_rfl) (by kernel_rfl) ?_
      have hr2 := fun (a : Act) (o : Oper) (K : Act → World → Prop) (Q : Exit → Act → World → Prop) => @sq_call Try.prog Q a o W0 K (QuietS (.bool false) W0) 18 #[.slice A n c, .slice B m d] 17
      refine hr2 _ _ _ _ ?_ ?_ ?_ ?_
      · kernel_rfl
      · kernel_rfl
      · exact HCL.out W0 hSW0
      rintro e W1 ⟨rfl, f9⟩
      have hfW1 := OldW.trans hSW0 f9
      refine ⟨_, rfl, hfW1, ?_⟩
      have hSW1 := hfW1
      clear hr2 f9 hfW1
      try simp only [Act.put, List.setIfInBounds_toArray, List.set_cons_zero, List.set_cons_succ]
      refine sqo_take (i := 8) (v := (.bool true)) (d := 23) rfl (by kernel_rfl) (by kernel_rfl) (by kernel_rfl) (by kernel_rfl) (by kernel_rfl) (fun _ _ _ h => h) ?_ (by assumption) ?_
      · intro w9 h9; kernel_rfl
      try simp only [Act.put, List.setIfInBounds_toArray, List.set_cons_zero, List.set_cons_succ]
      refine sqo_take (i := 9) (v := (.slice A n c)) (d := 24) rfl (by kernel_rfl) (by kernel_rfl) (by kernel_rfl) (by kernel_rfl) (by kernel_rfl) (fun _ _ _ h => h) ?_ (by assumption) ?_
      · intro w9 h9; kernel_rfl
      try simp only [Act.put, List.setIfInBounds_toArray, List.set_cons_zero, List.set_cons_succ]
      refine sqo_take (i := 11) (v := (.slice B m d)) (d := 26) rfl (by kernel_rfl) (by kernel_rfl) (by kernel_rfl) (by kernel_rfl) (by kernel_rfl) (fun _ _ _ h => h) ?_ (by assumption) ?_
      · intro w9 h9; kernel_rfl
      try simp only [Act.put, List.setIfInBounds_toArray, List.set_cons_zero, List.set_cons_succ]
      refine sqo_only (i := 10) rfl (by kernel_rfl) (by kernel_rfl) ?_
      have hr10 := fun (a : Act) (o : Oper) (K : Act → World → Prop) (Q : Exit → Act → World → Prop) => @sq_call Try.prog Q a o W1 K (Agg (.agg (u8s (shaB la)).toArray) W1) 10 #[.slice A n c] 25
      refine hr10 _ _ _ _ ?_ ?_ ?_ ?_
      · kernel_rfl
      · kernel_rfl
      · exact HRA.out W1 hSW1
      rintro e W2 ⟨rfl, f9⟩
      have hfW2 := OldW.trans hSW1 f9
      refine ⟨_, rfl, hfW2, ?_⟩
      have hSW2 := hfW2
      clear hr10 f9 hfW2
      try simp only [Act.put, List.setIfInBounds_toArray, List.set_cons_zero, List.set_cons_succ]
      refine sqo_only (i := 12) rfl (by kernel_rfl) (by kernel_rfl) ?_
      have hr12 := fun (a : Act) (o : Oper) (K : Act → World → Prop) (Q : Exit → Act → World → Prop) => @sq_call Try.prog Q a o W2 K (Agg (.agg (u8s (shaB lb)).toArray) W2) 10 #[.slice B m d] 27
      refine hr12 _ _ _ _ ?_ ?_ ?_ ?_
      · kernel_rfl
      · kernel_rfl
      · exact HRB.out W2 hSW2
      rintro e W3 ⟨rfl, f9⟩
      have hfW3 := OldW.trans hSW2 f9
      refine ⟨_, rfl, hfW3, ?_⟩
      have hSW3 := hfW3
      clear hr12 f9 hfW3
      try simp only [Act.put, List.setIfInBounds_toArray, List.set_cons_zero, List.set_cons_succ]
      refine sqo_take (i := 13) (v := (.bool false)) (d := 28) rfl (by kernel_rfl) (by kernel_rfl) (by kernel_rfl) (by kernel_rfl) (by kernel_rfl) (fun _ _ _ h => h) ?_ (by assumption) ?_
      · intro w9 h9; refine (ex_eql_dig w9 rfl (shaB la) (shaB lb) (by kernel_rfl) (by kernel_rfl) (shaB_length la) (shaB_length lb)).trans ?_; rw [HEB.out]
      try simp only [Act.put, List.setIfInBounds_toArray, List.set_cons_zero, List.set_cons_succ]
      refine sqo_take (i := 14) (v := (.bool false)) (d := 29) rfl (by kernel_rfl) (by kernel_rfl) (by kernel_rfl) (by kernel_rfl) (by kernel_rfl) (fun _ _ _ h => h) ?_ (by assumption) ?_
      · intro w9 h9; kernel_rfl
      try simp only [Act.put, List.setIfInBounds_toArray, List.set_cons_zero, List.set_cons_succ]
      refine sqo_take (i := 15) (v := (.bool true)) (d := 30) rfl (by kernel_rfl) (by kernel_rfl) (by kernel_rfl) (by kernel_rfl) (by kernel_rfl) (fun _ _ _ h => h) ?_ (by assumption) ?_
      · intro w9 h9; kernel_rfl
      try simp only [Act.put, List.setIfInBounds_toArray, List.set_cons_zero, List.set_cons_succ]
      refine sqo_take (i := 16) (v := (.bool true)) (d := 31) rfl (by kernel_rfl) (by kernel_rfl) (by kernel_rfl) (by kernel_rfl) (by kernel_rfl) (fun _ _ _ h => h) ?_ (by assumption) ?_
      · intro w9 h9; kernel_rfl
      try simp only [Act.put, List.setIfInBounds_toArray, List.set_cons_zero, List.set_cons_succ]
      refine sqo_take (i := 17) (v := (.slice A n c)) (d := 32) rfl (by kernel_rfl) (by kernel_rfl) (by kernel_rfl) (by kernel_rfl) (by kernel_rfl) (fun _ _ _ h => h) ?_ (by assumption) ?_
      · intro w9 h9; kernel_rfl
      try simp only [Act.put, List.setIfInBounds_toArray, List.set_cons_zero, List.set_cons_succ]
      refine sqo_take (i := 18) (v := (.slice A n c)) (d := 33) rfl (by kernel_rfl) (by kernel_rfl) (by kernel_rfl) (by kernel_rfl) (by kernel_rfl) (fun _ _ _ h => h) ?_ (by assumption) ?_
      · intro w9 h9; kernel_rfl
      try simp only [Act.put, List.setIfInBounds_toArray, List.set_cons_zero, List.set_cons_succ]
      refine sqo_only (i := 19) rfl (by kernel_rfl) (by kernel_rfl) ?_
      have hr19 := fun (a : Act) (o : Oper) (K : Act → World → Prop) (Q : Exit → Act → World → Prop) => @sq_call Try.prog Q a o W3 K (QuietS (.bool false) W3) 18 #[.slice A n c, .slice A n c] 34
      refine hr19 _ _ _ _ ?_ ?_ ?_ ?_
      · kernel_rfl
      · kernel_rfl
      · exact HCS.out W3 hSW3
      rintro e W4 ⟨rfl, f9⟩
      have hfW4 := OldW.trans hSW3 f9
      refine ⟨_, rfl, hfW4, ?_⟩
      have hSW4 := hfW4
      clear hr19 f9 hfW4
      try simp only [Act.put, List.setIfInBounds_toArray, List.set_cons_zero, List.set_cons_succ]
      refine sqo_take (i := 20) (v := (.bool true)) (d := 35) rfl (by kernel_rfl) (by kernel_rfl) (by kernel_rfl) (by kernel_rfl) (by kernel_rfl) (fun _ _ _ h => h) ?_ (by assumption) ?_
      · intro w9 h9; kernel_rfl
      try simp only [Act.put, List.setIfInBounds_toArray, List.set_cons_zero, List.set_cons_succ]
      refine sqo_take (i := 21) (v := (.bool true)) (d := 36) rfl (by kernel_rfl) (by kernel_rfl) (by kernel_rfl) (by kernel_rfl) (by kernel_rfl) (fun _ _ _ h => h) ?_ (by assumption) ?_
      · intro w9 h9; kernel_rfl
      try simp only [Act.put, List.setIfInBounds_toArray, List.set_cons_zero, List.set_cons_succ]
      refine sqo_take (i := 22) (v := (.bool true)) (d := 4) rfl (by kernel_rfl) (by kernel_rfl) (by kernel_rfl) (by kernel_rfl) (by kernel_rfl) (fun _ _ _ h => h) ?_ (by assumption) ?_
      · intro w9 h9; kernel_rfl
      try simp only [Act.put, List.setIfInBounds_toArray, List.set_cons_zero, List.set_cons_succ]
      refine wpAnyH_done (by kernel_rfl) ?_ _
      go_wp2_with fail
      go_ret
      exact ⟨rfl, F1.out.trans hSW4⟩
    | true =>
      obtain ⟨W0, hW0⟩ : ∃ W0, w1.drew = W0 := ⟨_, rfl⟩
      have hSW0 : OldW w1 W0 := hW0 ▸ (Fr.refl [] w1).drew
      refine sqo_begin (w0 := w1) (by kernel_rfl) ?_
      rw [hW0]
      clear hW0
      refine sqo_take (i := 0) (v := (.slice A n c)) (d := 15) rfl (by kernel_rfl) (by kernel_rfl) (by kernel_rfl) (by kernel_rfl) (by kernel_rfl) (fun _ _ _ h => h) ?_ (by assumption) ?_
      · intro w9 h9; kernel_rfl
      try simp only [Act.put, List.setIfInBounds_toArray, List.set_cons_zero, List.set_cons_succ]
      refine sqo_take (i := 1) (v := (.slice B m d)) (d := 16) rfl (by kernel_rfl) (by kernel_rfl) (by kernel_rfl) (by kernel_rfl) (by kernel_rfl) (fun _ _ _ h => h) ?_ (by assumption) ?_
      · intro w9 h9; kernel_rfl
      try simp only [Act.put, List.setIfInBounds_toArray, List.set_cons_zero, List.set_cons_succ]
      refine sqo_take (i := 3) (v := (.slice A n c)) (d := 18) rfl (by kernel_rfl) (by kernel_rfl) (by kernel_rfl) (by kernel_rfl) (by kernel_rfl) (fun _ _ _ h => h) ?_ (by assumption) ?_
      · intro w9 h9; kernel_rfl
      try simp only [Act.put, List.setIfInBounds_toArray, List.set_cons_zero, List.set_cons_succ]
      refine sqo_take (i := 5) (v := (.slice B m d)) (d := 20) rfl (by kernel_rfl) (by kernel_rfl) (by kernel_rfl) (by kernel_rfl) (by kernel_rfl) (fun _ _ _ h => h) ?_ (by assumption) ?_
      · intro w9 h9; kernel_rfl
      try simp only [Act.put, List.setIfInBounds_toArray, List.set_cons_zero, List.set_cons_succ]
      refine sqo_take (i := 4) (v := (.string (str la))) (d := 19) rfl (by kernel_rfl) (by kernel_rfl) (by kernel_rfl) (by kernel_rfl) (by kernel_rfl) (fun _ _ _ h => h) ?_ (by assumption) ?_
      · intro w9 h9; exact exec_conv_str (l := la) (c := c) rfl Try.underlying22 Try.underlying5 Try.underlying9 (by rw [HN.out]; kernel_rfl) (HA.out w9 h9)
      try simp only [Act.put, List.setIfInBounds_toArray, List.set_cons_zero, List.set_cons_succ]
      refine sqo_take (i := 6) (v := (.string (str lb))) (d := 21) rfl (by kernel_rfl) (by kernel_rfl) (by kernel_rfl) (by kernel_rfl) (by kernel_rfl) (fun _ _ _ h => h) ?_ (by assumption) ?_
      · intro w9 h9; exact exec_conv_str (l := lb) (c := d) rfl Try.underlying22 Try.underlying5 Try.underlying9 (by rw [HM.out]; kernel_rfl) (HB.out w9 h9)
      try simp only [Act.put, List.setIfInBounds_toArray, List.set_cons_zero, List.set_cons_succ]
      refine sqo_take (i := 7) (v := (.bool true)) (d := 22) rfl (by kernel_rfl) (by kernel_rfl) (by kernel_rfl) (by kernel_rfl) (by kernel_rfl) (fun _ _ _ h => h) ?_ (by assumption) ?_
      · intro w9 h9; exact ex_neq_str rfl (by kernel_rfl) (by kernel_rfl) HAB.out
      try simp only [Act.put, List.setIfInBounds_toArray, List.set_cons_zero, List.set_cons_succ]
      refine sqo_only (i := 2) rfl (by kernel_rfl) (by kernel_rfl) ?_
      have hr2 := fun (a : Act) (o : Oper) (K : Act → World → Prop) (Q : Exit → Act → World → Prop) => @sq_call Try.prog Q a o W0 K (QuietS (.bool true) W0) 18 #[.slice A n c, .slice B m d] 17
      refine hr2 _ _ _ _ ?_ ?_ ?_ ?_
      · kernel_rfl
      · kernel_rfl
      · exact HCL.out W0 hSW0
      rintro e W1 ⟨rfl, f9⟩
      have hfW1 := OldW.trans hSW0 f9
      refine ⟨_, rfl, hfW1, ?_⟩
      have hSW1 := hfW1
      clear hr2 f9 hfW1
      try simp only [Act.put, List.setIfInBounds_toArray, List.set_cons_zero, List.set_cons_succ]
      refine sqo_take (i := 8) (v := (.bool true)) (d := 23) rfl (by kernel_rfl) (by kernel_rfl) (by kernel_rfl) (by kernel_rfl) (by kernel_rfl) (fun _ _ _ h => h) ?_ (by assumption) ?_
      · intro w9 h9; kernel_rfl
      try simp only [Act.put, List.setIfInBounds_toArray, List.set_cons_zero, List.set_cons_succ]
      refine sqo_take (i := 9) (v := (.slice A n c)) (d := 24) rfl (by kernel_rfl) (by kernel_rfl) (by kernel_rfl) (by kernel_rfl) (by kernel_rfl) (fun _ _ _ h => h) ?_ (by assumption) ?_
      · intro w9 h9; kernel_rfl
      try simp only [Act.put, List.setIfInBounds_toArray, List.set_cons_zero, List.set_cons_succ]
      refine sqo_take (i := 11) (v := (.slice B m d)) (d := 26) rfl (by kernel_rfl) (by kernel_rfl) (by kernel_rfl) (by kernel_rfl) (by kernel_rfl) (fun _ _ _ h => h) ?_ (by assumption) ?_
      · intro w9 h9; kernel_rfl
      try simp only [Act.put, List.setIfInBounds_toArray, List.set_cons_zero, List.set_cons_succ]
      refine sqo_only (i := 10) rfl (by kernel_rfl) (by kernel_rfl) ?_
      have hr10 := fun (a : Act) (o : Oper) (K : Act → World → Prop) (Q : Exit → Act → World → Prop) => @sq_call Try.prog Q a o W1 K (Agg (.agg (u8s (shaB la)).toArray) W1) 10 #[.slice A n c] 25
      refine hr10 _ _ _ _ ?_ ?_ ?_ ?_
      · kernel_rfl
      · kernel_rfl
      · exact HRA.out W1 hSW1
      rintro e W2 ⟨rfl, f9⟩
      have hfW2 := OldW.trans hSW1 f9
      refine ⟨_, rfl, hfW2, ?_⟩
      have hSW2 := hfW2
      clear hr10 f9 hfW2
      try simp only [Act.put, List.setIfInBounds_toArray, List.set_cons_zero, List.set_cons_succ]
      refine sqo_only (i := 12) rfl (by kernel_rfl) (by kernel_rfl) ?_
      have hr12 := fun (a : Act) (o : Oper) (K : Act → World → Prop) (Q : Exit → Act → World → Prop) => @sq_call Try.prog Q a o W2 K (Agg (.agg (u8s (shaB lb)).toArray) W2) 10 #[.slice B m d] 27
      refine hr12 _ _ _ _ ?_ ?_ ?_ ?_
      · kernel_rfl
      · kernel_rfl
      · exact HRB.out W2 hSW2
      rintro e W3 ⟨rfl, f9⟩
      have hfW3 := OldW.trans hSW2 f9
      refine ⟨_, rfl, hfW3, ?_⟩
      have hSW3 := hfW3
      clear hr12 f9 hfW3
      try simp only [Act.put, List.setIfInBounds_toArray, List.set_cons_zero, List.set_cons_succ]
      refine sqo_take (i := 13) (v := (.bool true)) (d := 28) rfl (by kernel_rfl) (by kernel_rfl) (by kernel_rfl) (by kernel_rfl) (by kernel_rfl) (fun _ _ _ h => h) ?_ (by assumption) ?_
      · intro w9 h9; refine (ex_eql_dig w9 rfl (shaB la) (shaB lb) (by kernel_rfl) (by kernel_rfl) (shaB_length la) (shaB_length lb)).trans ?_; rw [HEB.out]
      try simp only [Act.put, List.setIfInBounds_toArray, List.set_cons_zero, List.set_cons_succ]
      refine sqo_take (i := 14) (v := (.bool true)) (d := 29) rfl (by kernel_rfl) (by kernel_rfl) (by kernel_rfl) (by kernel_rfl) (by kernel_rfl) (fun _ _ _ h => h) ?_ (by assumption) ?_
      · intro w9 h9; kernel_rfl
      try simp only [Act.put, List.setIfInBounds_toArray, List.set_cons_zero, List.set_cons_succ]
      refine sqo_take (i := 15) (v := (.bool true)) (d := 30) rfl (by kernel_rfl) (by kernel_rfl) (by kernel_rfl) (by kernel_rfl) (by kernel_rfl) (fun _ _ _ h => h) ?_ (by assumption) ?_
      · intro w9 h9; kernel_rfl
      try simp only [Act.put, List.setIfInBounds_toArray, List.set_cons_zero, List.set_cons_succ]
      refine sqo_take (i := 16) (v := (.bool true)) (d := 31) rfl (by kernel_rfl) (by kernel_rfl) (by kernel_rfl) (by kernel_rfl) (by kernel_rfl) (fun _ _ _ h => h) ?_ (by assumption) ?_
      · intro w9 h9; kernel_rfl
      try simp only [Act.put, List.setIfInBounds_toArray, List.set_cons_zero, List.set_cons_succ]
      refine sqo_take (i := 17) (v := (.slice A n c)) (d := 32) rfl (by kernel_rfl) (by kernel_rfl) (by kernel_rfl) (by kernel_rfl) (by kernel_rfl) (fun _ _ _ h => h) ?_ (by assumption) ?_
      · intro w9 h9; kernel_rfl
      try simp only [Act.put, List.setIfInBounds_toArray, List.set_cons_zero, List.set_cons_succ]
      refine sqo_take (i := 18) (v := (.slice A n c)) (d := 33) rfl (by kernel_rfl) (by kernel_rfl) (by kernel_rfl) (by kernel_rfl) (by kernel_rfl) (fun _ _ _ h => h) ?_ (by assumption) ?_
      · intro w9 h9; kernel_rfl
      try simp only [Act.put, List.setIfInBounds_toArray, List.set_cons_zero, List.set_cons_succ]
      refine sqo_only (i := 19) rfl (by kernel_rfl) (by kernel_rfl) ?_
      have hr19 := fun (a : Act) (o : Oper) (K : Act → World → Prop) (Q : Exit → Act → World → Prop) => @sq_call Try.prog Q a o W3 K (QuietS (.bool false) W3) 18 #[.slice A n c, .slice A n c] 34
      refine hr19 _ _ _ _ ?_ ?_ ?_ ?_
      · kernel_rfl
      · kernel_rfl
      · exact HCS.out W3 hSW3
      rintro e W4 ⟨rfl, f9⟩
      have hfW4 := OldW.trans hSW3 f9
      refine ⟨_, rfl, hfW4, ?_⟩
      have hSW4 := hfW4
      clear hr19 f9 hfW4
      try simp only [Act.put, List.setIfInBounds_toArray, List.set_cons_zero, List.set_cons_succ]
      refine sqo_take (i := 20) (v := (.bool true)) (d := 35) rfl (by kernel_rfl) (by kernel_rfl) (by kernel_rfl) (by kernel_rfl) (by kernel_rfl) (fun _ _ _ h => h) ?_ (by assumption) ?_
      · intro w9 h9; kernel_rfl
      try simp only [Act.put, List.setIfInBounds_toArray, List.set_cons_zero, List.set_cons_succ]
      refine sqo_take (i := 21) (v := (.bool true)) (d := 36) rfl (by kernel_rfl) (by kernel_rfl) (by kernel_rfl) (by kernel_rfl) (by kernel_rfl) (fun _ _ _ h => h) ?_ (by assumption) ?_
      · intro w9 h9; kernel_rfl
      try simp only [Act.put, List.setIfInBounds_toArray, List.set_cons_zero, List.set_cons_succ]
      refine sqo_take (i := 22) (v := (.bool true)) (d := 4) rfl (by kernel_rfl) (by kernel_rfl) (by kernel_rfl) (by kernel_rfl) (by kernel_rfl) (fun _ _ _ h => h) ?_ (by assumption) ?_
      · intro w9 h9; kernel_rfl
      try simp only [Act.put, List.setIfInBounds_toArray, List.set_cons_zero, List.set_cons_succ]
      refine wpAnyH_done (by kernel_rfl) ?_ _
      go_wp2_with fail
      go_ret
      exact ⟨rfl, F1.out.trans hSW4⟩
end Go.Proofs.Ytgjcnmlfoagnpaa
