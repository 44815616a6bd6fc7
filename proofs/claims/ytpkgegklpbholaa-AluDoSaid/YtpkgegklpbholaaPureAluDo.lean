/- PROVED HERE: for every operation's number and all numbers a, b of 64 bits, 'Do' gives what the document's definition gives, over 64 and over 32 bits. No condition but the kinds of the numbers. -/
import Derived.Test.YtpkgegklpbholaaPAluDox3
import Derived.Test.YtpkgegklpbholaaDoAluDo
namespace Go.Proofs.Ytpkgegklpbholaa.Pure
open Go.RowKit Go.Proofs.Ytpkgegklpbholaa.PAluDo Go.Proofs.YtpkgegklpbholaaW.PrintWords Go.Proofs.YtpkgegklpbholaaW.PrintLast Go.Proofs.YtpkgegklpbholaaW.PrintMore
open Go.Proofs.Ytpkgegklpbholaa.Num Go.Proofs.Ytpkgegklpbholaa.DoAluDo

theorem first_true : posternlaw05_first.f 300 = some true := by decide +kernel

theorem AluDo : posternlaw05_AluDo.Pure := by
  intro a0 a1 a2 w0 w1 w2
  obtain ⟨a, rfl, ha⟩ := nat_of w1
  obtain ⟨b, rfl, hb⟩ := nat_of w2
  refine ⟨300, ?_⟩
  unfold posternlaw05_AluDo.f
  rw [first_true]
  simp only [Option.bind_some, if_true]
  have step : ∀ (k : Nat) (i : Int) (_ : 210 ≤ k) (_ : 0 ≤ i) (_ : i < 2), posternlaw05_AluDo.l0 (k + 1) a0 (a : Int) (b : Int) [true, false] (([true, false] : List Bool).length : Int) i = posternlaw05_AluDo.l0 k a0 (a : Int) (b : Int) [true, false] (([true, false] : List Bool).length : Int) (i + 1) := by
    intro k i hk h0 h2
    have hi : i = 0 ∨ i = 1 := by omega
    rw [posternlaw05_AluDo.l0]
    rcases hi with rfl | rfl
    · rw [if_pos (by decide), if_pos (by decide), if_pos (by decide), show rdOf false ([true, false] : List Bool) 0 = true from rfl]
      simp only [posternlaw05_bits.f, if_true]
      by_cases hx : a0 ∈ ops
      · rw [alu_Do64 a0 hx ha hb]
        simp only [Option.bind_some]
        rw [ref_Do64 k hk a0 hx ha hb]
        simp [wrap64]
      · rw [alu_Do_not a0 hx]
        simp only [Option.bind_some]
        rw [ref_not k (by omega) a0 _ _ _ hx]
        simp [wrap64]
    · rw [if_pos (by decide), if_pos (by decide), if_pos (by decide), show rdOf false ([true, false] : List Bool) 1 = false from rfl]
      simp only [posternlaw05_bits.f, Bool.false_eq_true, if_false]
      by_cases hx : a0 ∈ ops
      · rw [alu_Do32 a0 hx]
        simp only [Option.bind_some]
        rw [ref_Do32 k hk a0 hx]
        simp [wrap64]
      · rw [alu_Do_not a0 hx]
        simp only [Option.bind_some]
        rw [ref_not k (by omega) a0 _ _ _ hx]
        simp [wrap64]
  rw [step 299 0 (by omega) (by omega) (by omega), step 298 (0 + 1) (by omega) (by omega) (by omega)]
  rw [posternlaw05_AluDo.l0, if_neg (by decide)]

end Go.Proofs.Ytpkgegklpbholaa.Pure
