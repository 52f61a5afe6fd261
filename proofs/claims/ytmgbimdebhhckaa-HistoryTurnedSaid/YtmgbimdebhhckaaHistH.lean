/- History: the rest of a growth. -/
import Derived.Test.YtmgbimdebhhckaaHistG
namespace Go.Proofs.Ytmgbimdebhhckaa
open Go.RowKit
set_option linter.unusedVariables false

/-- the rest of a growth -/
def restF (l : List (List UInt8)) (m : Nat) (own : Bool) : List (List UInt8) :=
  if h : l.length ≤ 1 ∨ m = l.length then (if own then [] else [rootF l])
  else if m ≤ hfN l.length then restF (l.take (hfN l.length)) m own ++ [rootF (l.drop (hfN l.length))]
  else restF (l.drop (hfN l.length)) (m - hfN l.length) false ++ [rootF (l.take (hfN l.length))]
termination_by l.length
decreasing_by
  · rw [List.length_take]; unfold hfN; omega
  · rw [List.length_drop]; unfold hfN; omega
theorem restF_all (l : List (List UInt8)) (m : Nat) (own : Bool) : ∀ p ∈ restF l m own, p.length = 32 := by
  induction l, m, own using restF.induct with
  | case1 l m h => rw [restF, dif_pos h]; simp
  | case2 l m own h ho => rw [restF, dif_pos h, if_neg ho]; intro p hp; simp at hp; subst hp; exact rootF_length _
  | case3 l m own h h1 ih => rw [restF, dif_neg h, if_pos h1]; intro p hp; simp at hp; rcases hp with hp | rfl; exact ih p hp; exact rootF_length _
  | case4 l m own h h1 ih => rw [restF, dif_neg h, if_neg h1]; intro p hp; simp at hp; rcases hp with hp | rfl; exact ih p hp; exact rootF_length _
theorem restF_le (l : List (List UInt8)) (m : Nat) (own : Bool) : (restF l m own).length ≤ l.length + 1 := by
  induction l, m, own using restF.induct with
  | case1 l m h => rw [restF, dif_pos h]; simp
  | case2 l m own h ho => rw [restF, dif_pos h, if_neg ho]; simp
  | case3 l m own h h1 ih => rw [restF, dif_neg h, if_pos h1]; simp at ih ⊢; unfold hfN at ih ⊢; omega
  | case4 l m own h h1 ih => rw [restF, dif_neg h, if_neg h1]; simp at ih ⊢; unfold hfN at ih ⊢; omega
theorem restF_small (l : List (List UInt8)) (m : Nat) (own : Bool) (h : l.length ≤ 99999) : (restF l m own).length ≤ 100000 := Nat.le_trans (restF_le l m own) (by omega)
theorem restF_step1 (l : List (List UInt8)) (n m : Nat) (own : Bool) (hn : l.length = n) (h2 : 2 ≤ n) (hb : n ≤ 100000) (hm : m < n) (h : m ≤ halfN n) : restF l m own = restF (l.take (halfN n)) m own ++ [rootF (l.drop (halfN n))] := by
  rw [restF, dif_neg (by omega), hn, hfN_eq n h2 (by omega), if_pos h]
theorem restF_step2 (l : List (List UInt8)) (n m : Nat) (own : Bool) (hn : l.length = n) (h2 : 2 ≤ n) (hb : n ≤ 100000) (hm : m < n) (h : ¬ m ≤ halfN n) : restF l m own = restF (l.drop (halfN n)) (m - halfN n) false ++ [rootF (l.take (halfN n))] := by
  rw [restF, dif_neg (by omega), hn, hfN_eq n h2 (by omega), if_neg h]
theorem restF_end (l : List (List UInt8)) (n m : Nat) (own : Bool) (hn : l.length = n) (hm : m = n) : restF l m own = if own then [] else [rootF l] := by
  rw [restF, dif_pos (by omega)]
/-- one digest in a new row -/
theorem ownD_one (w w0 : World) (r : List UInt8) (hr : r.length = 32) (hs : w0.heap.size ≤ w.heap.size) : (w.alloc (.cells (u8s r).toArray 25)).ownsRow w0.heap.size 25 32 (.slice (some ⟨w.heap.size, 0, none⟩) 1 1) 1 (u8s r) :=
  ⟨by simp [hr], .inr ⟨w.heap.size, 1, (u8s r).toArray, rfl, hs, heap_alloc_new w _, by omega, by unfold maxLen; omega, by simp [hr], by simp [hr, List.take_of_length_le]⟩⟩
end Go.Proofs.Ytmgbimdebhhckaa
