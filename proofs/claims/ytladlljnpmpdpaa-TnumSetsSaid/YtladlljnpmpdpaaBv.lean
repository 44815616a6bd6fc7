/- Plain: the print's words on whole numbers of 64 bits, over bit vectors. -/
import Derived.Test.YtladlljnpmpdpaaWMore
import Derived.Laws.BitsLemmas
import Derived.OpenShut
namespace Go.Proofs.Ytladlljnpmpdpaa.Bv
open Go.RowKit Go.Proofs.YtladlljnpmpdpaaW.PrintWords Go.Proofs.YtladlljnpmpdpaaW.PrintLast Go.Proofs.YtladlljnpmpdpaaW.PrintMore

theorem bv_of {x : Int} (h : (Lit.int .u64 x).wf = true) : ∃ b : BitVec 64, x = (b.toNat : Int) := by
  obtain ⟨h0, h1⟩ := bounds_u64 h
  refine ⟨BitVec.ofNat 64 x.toNat, ?_⟩
  rw [BitVec.toNat_ofNat, Nat.mod_eq_of_lt (by omega)]
  omega
theorem lt (a : BitVec 64) : a.toNat < 18446744073709551616 := a.isLt
theorem ofInt_bv (a : BitVec 64) : BitVec.ofInt 64 (a.toNat : Int) = a := by
  rw [BitVec.ofInt_natCast, BitVec.ofNat_toNat, BitVec.setWidth_eq]
theorem wrap_bv (a : BitVec 64) : IntKind.u64.wrap (a.toNat : Int) = (a.toNat : Int) := by
  have := lt a
  rw [IntKind.wrap_u64]; omega
theorem c_and (a b : BitVec 64) : Go.bits .and .u64 (a.toNat : Int) (b.toNat : Int) = ((a &&& b).toNat : Int) := by
  show IntKind.u64.wrap ((BitVec.ofInt 64 (a.toNat : Int) &&& BitVec.ofInt 64 (b.toNat : Int)).toNat : Int) = _
  rw [ofInt_bv, ofInt_bv, wrap_bv]
theorem c_or (a b : BitVec 64) : Go.bits .or .u64 (a.toNat : Int) (b.toNat : Int) = ((a ||| b).toNat : Int) := by
  show IntKind.u64.wrap ((BitVec.ofInt 64 (a.toNat : Int) ||| BitVec.ofInt 64 (b.toNat : Int)).toNat : Int) = _
  rw [ofInt_bv, ofInt_bv, wrap_bv]
theorem c_xor (a b : BitVec 64) : Go.bits .xor .u64 (a.toNat : Int) (b.toNat : Int) = ((a ^^^ b).toNat : Int) := by
  show IntKind.u64.wrap ((BitVec.ofInt 64 (a.toNat : Int) ^^^ BitVec.ofInt 64 (b.toNat : Int)).toNat : Int) = _
  rw [ofInt_bv, ofInt_bv, wrap_bv]
theorem c_andNot (a b : BitVec 64) : Go.bits .andNot .u64 (a.toNat : Int) (b.toNat : Int) = ((a &&& ~~~b).toNat : Int) := by
  show IntKind.u64.wrap ((BitVec.ofInt 64 (a.toNat : Int) &&& ~~~(BitVec.ofInt 64 (b.toNat : Int))).toNat : Int) = _
  rw [ofInt_bv, ofInt_bv, wrap_bv]
theorem c_not (a : BitVec 64) : Go.bits .xor .u64 18446744073709551615 (a.toNat : Int) = ((~~~a).toNat : Int) := by
  show IntKind.u64.wrap ((BitVec.ofInt 64 18446744073709551615 ^^^ BitVec.ofInt 64 (a.toNat : Int)).toNat : Int) = _
  have h1 : BitVec.ofInt 64 18446744073709551615 = BitVec.allOnes 64 := by decide
  rw [h1, BitVec.allOnes_xor, ofInt_bv, wrap_bv]
theorem c_add (a b : BitVec 64) : IntKind.u64.wrap ((a.toNat : Int) + (b.toNat : Int)) = ((a + b).toNat : Int) := by
  have := lt a; have := lt b
  rw [IntKind.wrap_u64, BitVec.toNat_add]; omega
theorem c_sub (a b : BitVec 64) : IntKind.u64.wrap ((a.toNat : Int) - (b.toNat : Int)) = ((a - b).toNat : Int) := by
  have := lt a; have := lt b
  rw [IntKind.wrap_u64, BitVec.toNat_sub]; omega
theorem c_eq (a b : BitVec 64) : (a.toNat : Int) = (b.toNat : Int) ↔ a = b := by
  rw [← BitVec.toNat_inj]; omega
theorem c_eq0 (a : BitVec 64) : (a.toNat : Int) = 0 ↔ a = 0#64 := by
  rw [← BitVec.toNat_inj]; simp
theorem c_zero : ((0#64).toNat : Int) = 0 := rfl
theorem c_shl (a : BitVec 64) (n : Nat) (hn : n ≤ 64) : shl .u64 (a.toNat : Int) (n : Int) = ((a <<< n).toNat : Int) := by
  unfold shl
  rw [IntKind.wrap_u64, Int.toNat_natCast, Nat.min_eq_left (show n ≤ IntKind.u64.bits from hn), BitVec.toNat_shiftLeft, Nat.shiftLeft_eq]
  rw [Int.natCast_emod, Int.natCast_mul, Int.natCast_pow]; rfl
theorem c_shr (a : BitVec 64) (n : Nat) (hn : n ≤ 64) : shr .u64 (a.toNat : Int) (n : Int) = ((a >>> n).toNat : Int) := by
  unfold shr
  rw [Int.toNat_natCast, Nat.min_eq_left (show n ≤ IntKind.u64.bits from hn), BitVec.toNat_ushiftRight, Nat.shiftRight_eq_div_pow]
  rw [Int.natCast_ediv, Int.natCast_pow]; rfl
/-- The low half. -/
def lo (a : BitVec 64) : BitVec 64 := a &&& 4294967295#64
theorem lo_nat (a : BitVec 64) : (lo a).toNat = a.toNat % 4294967296 := by
  unfold lo
  rw [BitVec.toNat_and, show (4294967295#64).toNat = 2 ^ 32 - 1 by decide, Nat.and_two_pow_sub_one_eq_mod]
theorem c_lo (a : BitVec 64) : (a.toNat : Int) % 4294967296 = ((lo a).toNat : Int) := by
  rw [lo_nat]; omega
end Go.Proofs.Ytladlljnpmpdpaa.Bv
