/- Plain: the second operand is the register's number, or the immediate one with its sign. -/
import Derived.Test.YtpkgegklpbholaaPAluOperandx1
import Derived.Test.YtpkgegklpbholaaNum
namespace Go.Proofs.Ytpkgegklpbholaa.Pure
open Go.RowKit Go.Proofs.Ytpkgegklpbholaa.PAluOperand Go.Proofs.YtpkgegklpbholaaW.PrintWords Go.Proofs.YtpkgegklpbholaaW.PrintLast Go.Proofs.YtpkgegklpbholaaW.PrintMore
open Go.Proofs.Ytpkgegklpbholaa.Num

namespace AluOperandParts
theorem byreg : ∀ n : Fin 256, insn_ByReg.f ((n.val : Nat) : Int) = some (decide (n.val / 8 % 2 = 1)) := by decide +kernel
theorem byreg_of {x : Int} (h0 : 0 ≤ x) (h1 : x ≤ 255) : insn_ByReg.f x = some (decide (x / 8 % 2 = 1)) := by
  obtain ⟨n, rfl⟩ := Int.eq_ofNat_of_zero_le h0
  have h := byreg ⟨n, by omega⟩
  rw [h]
  congr 1
  rw [decide_eq_decide]
  show n / 8 % 2 = 1 ↔ _
  omega
end AluOperandParts
open AluOperandParts

theorem first_true : posternlaw05_first.f 40 = some true := by decide +kernel

theorem AluOperand (o d s f m v : Int) (wo : (Lit.int .u8 o).wf = true) (wm : (Lit.int .i32 m).wf = true) : posternlaw05_AluOperand.f 40 o d s f m v = some true := by
  obtain ⟨o0, o1⟩ := bounds_u8 wo
  obtain ⟨m0, m1⟩ := bounds_i32 wm
  unfold posternlaw05_AluOperand.f alu_Operand.f
  rw [first_true]
  simp only [Option.bind_some, if_true]
  rw [byreg_of o0 o1]
  simp only [Option.bind_some]
  rw [Int.tdiv_eq_ediv_of_nonneg o0]
  by_cases h : o / 8 % 2 = 1
  · rw [if_neg (by omega)]
    simp [h]
  · rw [if_pos (by omega)]
    simp only [h, decide_false, Bool.false_eq_true, if_false, Option.bind_some]
    rw [IntKind.wrap_u64]
    by_cases hm : m < 0
    · rw [if_pos hm]
      congr 1
      rw [beq_iff_eq]
      unfold wrap64; omega
    · rw [if_neg hm]
      congr 1
      rw [beq_iff_eq]
      unfold wrap64; omega
end Go.Proofs.Ytpkgegklpbholaa.Pure
