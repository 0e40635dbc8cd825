/- Layer 1 and layer 4 in plain Lean: prefixes, which rule fits, which is ahead. -/
import Derived.Test.YtlnnkkbcmidddaaRead
import Derived.Laws.BitsLemmas
import Derived.Laws.Bits64
import Derived.Laws.MathBits
namespace Go.Proofs.Ytlnnkkbcmidddaa

def boundI (n : Int) : Int := min (max n 0) 32
def boundN (n : Int) : Nat := (boundI n).toNat
theorem boundI_nat (n : Int) : boundI n = (boundN n : Int) := by unfold boundN boundI; omega
theorem boundN_le (n : Int) : boundN n ≤ 32 := by unfold boundN boundI; omega
/-- A number's 32 low bits. -/
def low (a : Int) : Nat := (a % 4294967296).toNat
theorem low_lt (a : Int) : low a < 4294967296 := by unfold low; omega
def cutN (a n : Int) : Nat := low a / 2 ^ (32 - boundN n) * 2 ^ (32 - boundN n)
theorem cutN_lt (a n : Int) : cutN a n < 4294967296 := Nat.lt_of_le_of_lt (Nat.div_mul_le_self _ _) (low_lt a)
def maskI (n : Int) : Int := IntKind.u64.wrap (4294967295 * 2 ^ (32 - boundI n).toNat) % 4294967296

theorem mask_all : ∀ b : Fin 33, (IntKind.u64.wrap (4294967295 * 2 ^ (32 - b.val))) % 4294967296 = (((2 ^ b.val - 1) * 2 ^ (32 - b.val) : Nat) : Int) := by decide
theorem mask_nat (n : Int) : maskI n = (((2 ^ boundN n - 1) * 2 ^ (32 - boundN n) : Nat) : Int) := by
  have h := mask_all ⟨boundN n, by have := boundN_le n; omega⟩
  simp only at h
  unfold maskI
  rw [show (32 - boundI n).toNat = 32 - boundN n by rw [boundI_nat]; have := boundN_le n; omega]
  exact h
theorem and_mask (x b k : Nat) : x &&& (2 ^ b - 1) * 2 ^ k = x / 2 ^ k % 2 ^ b * 2 ^ k := by
  rw [← Nat.shiftLeft_eq, ← Nat.shiftLeft_eq, ← Nat.shiftRight_eq_div_pow]
  apply Nat.eq_of_testBit_eq
  intro i
  simp only [Nat.testBit_and, Nat.testBit_shiftLeft, Nat.testBit_mod_two_pow, Nat.testBit_shiftRight, Nat.testBit_two_pow_sub_one]
  by_cases h : k ≤ i
  · simp only [h, decide_true, Bool.true_and]
    rw [show k + (i - k) = i by omega, Bool.and_comm]
  · simp [h]
theorem bits_and64 (a : Int) (m : Nat) (hm : m < 2 ^ 63) : bits .and .i64 a (m : Int) = (((a % 18446744073709551616).toNat &&& m : Nat) : Int) := by
  have h2 : (a % 18446744073709551616).toNat &&& m ≤ m := Nat.and_le_right
  show IntKind.i64.wrap ((BitVec.ofInt 64 a &&& BitVec.ofInt 64 (m : Int)).toNat : Nat) = _
  rw [BitVec.toNat_and, BitVec.ofInt_natCast, BitVec.toNat_ofNat, Nat.mod_eq_of_lt (by omega : m < 2 ^ 64), BitVec.toNat_ofInt, IntKind.wrap_i64]
  have e : (a % ((2 ^ 64 : Nat) : Int)).toNat = (a % 18446744073709551616).toNat := rfl
  rw [e]
  omega
theorem cut_eq (a n : Int) : bits .and .i64 a (maskI n) = (cutN a n : Int) := by
  have hb := boundN_le n
  rw [mask_nat, bits_and64, and_mask]
  · unfold cutN low
    congr 1
    congr 1
    have e : (a % 18446744073709551616).toNat % 4294967296 = (a % 4294967296).toNat := by omega
    rw [← e]
    have e2 : (4294967296 : Nat) = 2 ^ boundN n * 2 ^ (32 - boundN n) := by
      rw [← Nat.pow_add, show boundN n + (32 - boundN n) = 32 by omega]
    rw [e2, Nat.mul_comm (2 ^ boundN n), Nat.mod_mul_right_div_self]
  · have h1 : 2 ^ boundN n - 1 < 2 ^ boundN n := by have := Nat.two_pow_pos (boundN n); omega
    have h2 : (2 ^ boundN n - 1) * 2 ^ (32 - boundN n) < 2 ^ boundN n * 2 ^ (32 - boundN n) := Nat.mul_lt_mul_of_pos_right h1 (Nat.two_pow_pos _)
    rw [← Nat.pow_add, show boundN n + (32 - boundN n) = 32 by omega] at h2
    omega
theorem low_and (a : Int) : bits .and .i64 a 4294967295 = (low a : Int) := by
  rw [show (4294967295 : Int) = ((4294967295 : Nat) : Int) from rfl, bits_and64 _ _ (by decide), show (4294967295 : Nat) = 2 ^ 32 - 1 by decide, Nat.and_two_pow_sub_one_eq_mod]
  unfold low
  congr 1
  omega

/-- The document's way: bit by bit. -/
def bitN (a : Int) (i : Int) : Nat := if i < 0 ∨ 31 < i then 0 else low a / 2 ^ (31 - i).toNat % 2
theorem bitN_at (a : Int) (i : Nat) (h : i < 32) : bitN a i = low a / 2 ^ (31 - i) % 2 := by
  unfold bitN
  rw [if_neg (by omega), show ((31 : Int) - i).toNat = 31 - i by omega]
/-- The number behind i rounds. -/
def cutAt (a n : Int) (i : Nat) : Nat := if i ≤ boundN n then low a / 2 ^ (32 - i) else low a / 2 ^ (32 - boundN n) * 2 ^ (i - boundN n)
theorem cutAt_zero (a n : Int) : cutAt a n 0 = 0 := by
  unfold cutAt
  rw [if_pos (Nat.zero_le _)]
  exact Nat.div_eq_of_lt (low_lt a)
theorem cutAt_lt (a n : Int) (i : Nat) (h : i < 32) : cutAt a n (i + 1) = cutAt a n i * 2 + (if i < boundN n then bitN a i else 0) := by
  unfold cutAt
  by_cases h1 : i < boundN n
  · rw [if_pos (by omega), if_pos (by omega), if_pos h1, bitN_at a i h]
    have e : 2 ^ (32 - i) = 2 ^ (32 - (i + 1)) * 2 := by rw [← Nat.pow_succ]; congr 1; omega
    rw [e, ← Nat.div_div_eq_div_mul, show 31 - i = 32 - (i + 1) by omega]
    omega
  · rw [if_neg (by omega), if_neg h1]
    by_cases h2 : i ≤ boundN n
    · have : i = boundN n := by omega
      rw [if_pos h2, this]
      simp
    · rw [if_neg h2, Nat.mul_assoc, ← Nat.pow_succ, Nat.add_zero, show i + 1 - boundN n = i - boundN n + 1 by omega]
      rfl
theorem cutAt_full (a n : Int) : cutAt a n 32 = cutN a n := by
  unfold cutAt cutN
  split
  · have : boundN n = 32 := by have := boundN_le n; omega
    rw [this]
    simp
  · rfl
theorem cutAt_bound (a n : Int) (i : Nat) (h : i ≤ 32) : cutAt a n i ≤ 4294967296 := by
  have hl := low_lt a
  unfold cutAt
  split
  · exact Nat.le_trans (Nat.div_le_self _ _) (by omega)
  · have h1 : 2 ^ (i - boundN n) ≤ 2 ^ (32 - boundN n) := Nat.pow_le_pow_right (by omega) (by omega)
    exact Nat.le_trans (Nat.mul_le_mul_left _ h1) (Nat.le_trans (Nat.div_mul_le_self _ _) (by omega))

structure Rul where
  addr : Int
  len : Int
  inn : Int
  prio : Int
  kind : Int
  port : Int
  deriving DecidableEq
def hasI (pa pl dst : Int) : Bool := decide ((cutN dst pl : Int) = pa) && decide (boundI pl = pl)
def fitsI (r : Rul) (inn dst : Int) : Bool := hasI r.addr r.len dst && (r.inn == -1 || r.inn == inn)
def aheadI (a b : Rul) : Bool := if a.len != b.len then decide (b.len < a.len) else if a.prio != b.prio then decide (b.prio < a.prio) else decide (b.inn < a.inn)
end Go.Proofs.Ytlnnkkbcmidddaa
