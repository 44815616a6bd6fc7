/- Plain: what each of the thirteen operations makes of two numbers below 2^B, over natural numbers; and the bit identities that are wanted of it. -/
import Derived.Test.YtladlljnpmpdpaaNum
namespace Go.Proofs.Ytladlljnpmpdpaa.Num
open Go.RowKit Go.Proofs.YtladlljnpmpdpaaW.PrintWords Go.Proofs.YtladlljnpmpdpaaW.PrintLast Go.Proofs.YtladlljnpmpdpaaW.PrintMore

/-- The thirteen operations. -/
def ops : List Int := [0, 16, 32, 48, 64, 80, 96, 112, 128, 144, 160, 176, 192]

/-- What operation k makes of a and b, both below 2^B. -/
def val (k : Int) (B : Nat) (a b : Nat) : Nat :=
  if k = 0 then (a + b) % 2 ^ B else if k = 16 then (a + (2 ^ B - b)) % 2 ^ B else if k = 32 then a * b % 2 ^ B else if k = 48 then a / b else if k = 64 then a ||| b else if k = 80 then a &&& b
  else if k = 96 then a * 2 ^ (b % B) % 2 ^ B else if k = 112 then a / 2 ^ (b % B) else if k = 128 then (2 ^ B - a) % 2 ^ B else if k = 144 then a % b else if k = 160 then a ^^^ b else if k = 176 then b
  else a / 2 ^ (b % B) + (if a < 2 ^ (B - 1) then 0 else 2 ^ B - 2 ^ (B - b % B))

theorem ops_iff (k : Int) : k ∈ ops ↔ (Int.tmod k 16 = 0 ∧ 0 ≤ k ∧ k ≤ 192) := by
  unfold ops
  simp only [List.mem_cons, List.not_mem_nil, or_false]
  constructor
  · rintro (rfl | rfl | rfl | rfl | rfl | rfl | rfl | rfl | rfl | rfl | rfl | rfl | rfl) <;> decide
  · rintro ⟨h, h0, h1⟩
    rw [Int.tmod_eq_emod_of_nonneg h0] at h
    omega

theorem not_nat {a : Nat} (ha : a < 18446744073709551616) : Go.bits .xor .u64 18446744073709551615 (a : Int) = ((18446744073709551615 - a : Nat) : Int) := by
  show IntKind.u64.wrap ((BitVec.ofInt 64 18446744073709551615 ^^^ BitVec.ofInt 64 (a : Int)).toNat : Int) = _
  have h1 : BitVec.ofInt 64 18446744073709551615 = BitVec.allOnes 64 := by decide
  rw [h1, BitVec.allOnes_xor, BitVec.toNat_not, BitVec.ofInt_natCast, BitVec.toNat_ofNat, IntKind.wrap_u64]
  rw [show (2 : Nat) ^ 64 = 18446744073709551616 by decide, Nat.mod_eq_of_lt ha]
  omega

theorem xor_add_and {a b : Nat} (ha : a < 18446744073709551616) (hb : b < 18446744073709551616) : (a ^^^ b) + (a &&& b) = a ||| b := by
  have h : (BitVec.ofNat 64 a ^^^ BitVec.ofNat 64 b) + (BitVec.ofNat 64 a &&& BitVec.ofNat 64 b) = BitVec.ofNat 64 a ||| BitVec.ofNat 64 b := by
    rw [BitVec.add_eq_or_of_and_eq_zero]
    · ext i hi; rw [BitVec.getElem_or, BitVec.getElem_or, BitVec.getElem_xor, BitVec.getElem_and]; generalize (BitVec.ofNat 64 a)[i] = p; generalize (BitVec.ofNat 64 b)[i] = q; revert p q; decide
    · ext i hi; rw [BitVec.getElem_and, BitVec.getElem_xor, BitVec.getElem_and, BitVec.getElem_zero]; generalize (BitVec.ofNat 64 a)[i] = p; generalize (BitVec.ofNat 64 b)[i] = q; revert p q; decide
  have h2 := congrArg BitVec.toNat h
  rw [BitVec.toNat_add, BitVec.toNat_xor, BitVec.toNat_and, BitVec.toNat_or, BitVec.toNat_ofNat, BitVec.toNat_ofNat, show (2 : Nat) ^ 64 = 18446744073709551616 by decide, Nat.mod_eq_of_lt ha, Nat.mod_eq_of_lt hb] at h2
  have h3 : a ||| b < 18446744073709551616 := or_lt ha hb
  have h4 : a &&& b < 18446744073709551616 := and_lt a hb
  have h5 : a ^^^ b < 18446744073709551616 := xor_lt ha hb
  have h6 : a &&& b ≤ a ||| b := Nat.le_trans Nat.and_le_left Nat.left_le_or
  omega

theorem pow_lt {n m : Nat} (h : n < m) : 2 ^ n < 2 ^ m := Nat.pow_lt_pow_right (by decide) h
theorem pow_le {n m : Nat} (h : n ≤ m) : 2 ^ n ≤ 2 ^ m := Nat.pow_le_pow_right (by decide) h

/-- An arithmetic shift to the right of a number with the highest bit. -/
theorem sar_ediv (a n B : Nat) (hn : n ≤ B) : ((a : Int) - ((2 ^ B : Nat) : Int)) / 2 ^ n = ((a / 2 ^ n : Nat) : Int) - ((2 ^ (B - n) : Nat) : Int) := by
  have h : ((2 ^ B : Nat) : Int) = ((2 ^ (B - n) : Nat) : Int) * 2 ^ n := by
    rw [show (2 : Int) ^ n = ((2 ^ n : Nat) : Int) by simp, ← Int.natCast_mul, ← Nat.pow_add, Nat.sub_add_cancel hn]
  have h0 : (2 : Int) ^ n ≠ 0 := Int.ne_of_gt (Int.pow_pos (by decide))
  rw [h, Int.sub_eq_add_neg, ← Int.neg_mul, Int.add_mul_ediv_right _ _ h0, Int.natCast_ediv]
  simp [Int.sub_eq_add_neg]

end Go.Proofs.Ytladlljnpmpdpaa.Num
