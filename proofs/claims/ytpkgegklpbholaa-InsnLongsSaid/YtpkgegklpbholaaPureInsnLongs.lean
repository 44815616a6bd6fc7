/- Plain: numbers of 64 bits are split over two slots and joined again. -/
import Derived.Test.YtpkgegklpbholaaPInsnLongsx
import Derived.Test.YtpkgegklpbholaaNum
namespace Go.Proofs.Ytpkgegklpbholaa.Pure
open Go.RowKit Go.Proofs.Ytpkgegklpbholaa.PInsnLongs Go.Proofs.YtpkgegklpbholaaW.PrintWords Go.Proofs.YtpkgegklpbholaaW.PrintLast Go.Proofs.YtpkgegklpbholaaW.PrintMore
open Go.Proofs.Ytpkgegklpbholaa.Num

namespace InsnLongsParts
theorem join (x y : Int) (hx0 : 0 ≤ x) (hx : x < 4294967296) (hy0 : 0 ≤ y) (hy : y < 4294967296) : Go.bits .or .u64 x (y * 4294967296) = y * 4294967296 + x := by
  obtain ⟨a, rfl⟩ := Int.eq_ofNat_of_zero_le hx0
  obtain ⟨b, rfl⟩ := Int.eq_ofNat_of_zero_le hy0
  have h := Nat.two_pow_add_eq_or_of_lt (i := 32) (b := a) (by omega) b
  rw [show (b : Int) * 4294967296 = ((b * 4294967296 : Nat) : Int) by omega, or_nat (by omega) (by omega), Nat.or_comm]
  rw [show 2 ^ 32 * b = b * 4294967296 by omega] at h
  rw [← h]
  omega
end InsnLongsParts
open InsnLongsParts

theorem first_true : posternlaw02_first.f 60 = some true := by decide +kernel

theorem InsnLongs (a0 a1 a2 a3 a4 b0 b1 b2 b3 b4 v : Int) (_ : (Lit.int .u8 a0).wf = true) (_ : (Lit.int .u8 a1).wf = true) (_ : (Lit.int .u8 a2).wf = true) (_ : (Lit.int .i16 a3).wf = true) (_ : (Lit.int .i32 a4).wf = true)
    (_ : (Lit.int .u8 b0).wf = true) (_ : (Lit.int .u8 b1).wf = true) (_ : (Lit.int .u8 b2).wf = true) (_ : (Lit.int .i16 b3).wf = true) (_ : (Lit.int .i32 b4).wf = true) (wv : (Lit.int .u64 v).wf = true) :
    ∃ k, posternlaw02_InsnLongs.f k a0 a1 a2 a3 a4 b0 b1 b2 b3 b4 v = some true := by
  obtain ⟨v0, v1⟩ := bounds_u64 wv
  refine ⟨60, ?_⟩
  unfold posternlaw02_InsnLongs.f
  rw [first_true]
  simp only [Option.bind_some, if_true, insn_Split.f, insn_Long.f, posternref02_Long.f, List.length_cons, List.length_nil]
  rw [if_pos (by decide), join _ _ (by omega) (by omega) (by omega) (by omega)]
  simp only [if_true]
  rw [if_pos (by decide), if_pos (by decide)]
  simp only [rd_T24, show ((0 : Int).toNat) = 0 from rfl, show ((1 : Int).toNat) = 1 from rfl, List.getD_cons_zero, List.getD_cons_succ]
  rw [join _ _ (by omega) (by omega) (by omega) (by omega)]
  rw [if_pos (by unfold wrap32; omega)]
  simp
end Go.Proofs.Ytpkgegklpbholaa.Pure
