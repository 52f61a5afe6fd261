/- SHA-256: words, turns. -/
import Derived.Test.YtmgbimdebhhckaaMem
import Derived.Test.YtmgbimdebhhckaaProg
import Derived.Test.YtmgbimdebhhckaaChecked
import Derived.RegionTactic
import Derived.Outline
import Derived.KernelRfl
import Derived.Deep.RegionLaw
import Derived.Deep.DeepCutAuto
namespace Go.Proofs.Ytmgbimdebhhckaa
open Go.RowKit

def u32v (x : UInt32) : Value := .int .u32 (x.toNat : Int)
def u32s (l : List UInt32) : List Value := l.map u32v
theorem u32s_get (l : List UInt32) (i : Nat) : (u32s l)[i]? = (l[i]?).map u32v := by simp [u32s]
@[simp] theorem u32s_length (l : List UInt32) : (u32s l).length = l.length := by simp [u32s]
theorem u32s_one (l : List UInt32) : ∀ v ∈ u32s l, v.oneCell' = true := by intro v hv; simp only [u32s, List.mem_map] at hv; obtain ⟨x, _, rfl⟩ := hv; rfl

theorem u32_lt (x : UInt32) : x.toNat < 4294967296 := x.toNat_lt
theorem w_xor (a b : UInt32) : bits .xor .u32 (a.toNat : Int) (b.toNat : Int) = ((a ^^^ b).toNat : Int) := by rw [u32_xor_nat _ _ (u32_lt a) (u32_lt b), UInt32.toNat_xor]
theorem w_and (a b : UInt32) : bits .and .u32 (a.toNat : Int) (b.toNat : Int) = ((a &&& b).toNat : Int) := by rw [u32_and_nat _ _ (u32_lt a) (u32_lt b), UInt32.toNat_and]
theorem w_or (a b : UInt32) : bits .or .u32 (a.toNat : Int) (b.toNat : Int) = ((a ||| b).toNat : Int) := by rw [u32_or_nat _ _ (u32_lt a) (u32_lt b), UInt32.toNat_or]
theorem w_add (a b : UInt32) : ((a.toNat : Int) + (b.toNat : Int)) % 4294967296 = ((a + b).toNat : Int) := by rw [UInt32.toNat_add]; omega
theorem w_shr (a : UInt32) (n : Nat) (hn : n < 32) : (a.toNat : Int) / 2 ^ n = ((a >>> UInt32.ofNat n).toNat : Int) := by
  rw [UInt32.toNat_shiftRight, UInt32.toNat_ofNat', Nat.mod_eq_of_lt (by omega : n < 2 ^ 32), Nat.mod_eq_of_lt hn, Nat.shiftRight_eq_div_pow]
  simp
theorem w_shl (a : UInt32) (n : Nat) (hn : n < 32) : ((a.toNat : Int) * 2 ^ n) % 4294967296 = ((a <<< UInt32.ofNat n).toNat : Int) := by
  rw [UInt32.toNat_shiftLeft, UInt32.toNat_ofNat', Nat.mod_eq_of_lt (by omega : n < 2 ^ 32), Nat.mod_eq_of_lt hn, Nat.shiftLeft_eq]
  simp
theorem w_not (a : UInt32) : 4294967295 - (a.toNat : Int) = ((~~~a).toNat : Int) := by
  rw [UInt32.toNat_not]
  have := u32_lt a
  have e : UInt32.size = 4294967296 := rfl
  omega

theorem run_index_arr {P : Program} {t e : TypeId} {n : Nat} (ht : P.underlying t = some (.array n e)) (hi : (P.info? e).map (·.size) = some 1) {b j : Nat} (hj : j < n) (i : Int) (hij : i = (j : Int)) (w : World) :
    (Instr.indexAt t (.pointer (some ⟨b, 0, none⟩)) (.int .i64 i)).run P w = .ok (.pointer (some ⟨b, j, none⟩)) w := by
  subst hij
  cases hq : P.info? e with
  | none => simp [hq] at hi
  | some i =>
    have hs : i.size = 1 := by simpa [hq] using hi
    have h0 : (0 : Int) ≤ j ∧ (j : Int) < n := by omega
    simp [Instr.indexAt, asIntOf, run_underlying ht, sizeOf, typeInfo, hq, hs, h0, addr_add0, hj, Instr.sureAddr]
theorem sizeW : (Try.prog.info? 68).map (·.size) = some 1 := by kernel_rfl

/-- turned right by n, from 1 to 31 -/
def rotr (x : UInt32) (n : Nat) : UInt32 := (x >>> UInt32.ofNat n) ||| (x <<< UInt32.ofNat (32 - n))

theorem rot_amount : ∀ n : Nat, n < 32 → 1 ≤ n → bits .and .u64 (IntKind.u64.wrap (-(n : Int))) 31 = ((32 - n : Nat) : Int) := by decide +kernel
theorem rot_eq (x : UInt32) (n : Nat) (h1 : 1 ≤ n) (h2 : n ≤ 31) : bits .or .u32 ((x.toNat : Int) / 2 ^ n) ((x.toNat : Int) * 2 ^ (32 - n) % 4294967296) = ((rotr x n).toNat : Int) := by
  rw [w_shr x n (by omega), w_shl x (32 - n) (by omega), w_or]; rfl
theorem rot_eq' (x : UInt32) (n : Nat) (h1 : 1 ≤ n) (h2 : n ≤ 31) : bits .or .u32 ((x.toNat : Int) * 2 ^ (32 - n) % 4294967296) ((x.toNat : Int) / 2 ^ n) = ((rotr x n).toNat : Int) := by
  rw [w_shr x n (by omega), w_shl x (32 - n) (by omega), w_or, UInt32.or_comm]; rfl

theorem rot_calls (w : World) (x : UInt32) (n : Nat) (h1 : 1 ≤ n) (h2 : n ≤ 31) (k : Int) (hk : k = -(n : Int)) :
    Calls Try.prog 53 #[.int .u32 (x.toNat : Int), .int .i64 k] w fun e w' => e = .returned (.int .u32 ((rotr x n).toNat : Int)) ∧ w = w' := by
  have hx := u32_lt x
  obtain ⟨s, hs⟩ : ∃ s, 32 - n = s := ⟨_, rfl⟩
  have hs2 : bits .and .u64 (IntKind.u64.wrap k) 31 = (s : Int) := by rw [hk, rot_amount n (by omega) h1, hs]
  have hs3 : s ≤ 31 ∧ 1 ≤ s := by omega
  have hn : 32 - s = n := by omega
  have he := rot_eq' x n h1 h2
  rw [hs] at he
  have HE := Lib.hid he
  clear he hk hs
  go_enter Try.func53, Try.ntmps53
  go_wp2
  go_ret
  exact ⟨congrArg (fun x => Ending.returned (Value.int .u32 x)) (by rw [← HE.out]), rfl⟩
theorem turned_calls (w : World) (x : UInt32) (n : Nat) (h1 : 1 ≤ n) (h2 : n ≤ 31) :
    Calls Try.prog 54 #[.int .u32 (x.toNat : Int), .int .u64 (n : Int)] w fun e w' => e = .returned (.int .u32 ((rotr x n).toNat : Int)) ∧ w = w' := by
  have hx := u32_lt x
  have HE := Lib.hid (rot_eq x n h1 h2)
  go_enter Try.func54, Try.ntmps54
  go_wp2
  go_ret
  exact ⟨congrArg (fun x => Ending.returned (Value.int .u32 x)) HE.out, rfl⟩
end Go.Proofs.Ytmgbimdebhhckaa
