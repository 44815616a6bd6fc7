/- PROVED HERE: for each of the 256 operations, what it is, its class, kind, operand, size and width are what the document says. No condition. -/
import Derived.Test.YtpkgegklpbholaaPInsnOpsx4
import Derived.OpenShut
namespace Go.Proofs.Ytpkgegklpbholaa.Pure
open Go.RowKit Go.Proofs.Ytpkgegklpbholaa.PInsnOps Go.Proofs.YtpkgegklpbholaaW.PrintWords Go.Proofs.YtpkgegklpbholaaW.PrintLast
theorem all256 : ∀ n : Fin 256, posternlaw02_InsnOps.f 30 ((n.val : Nat) : Int) = some true := by decide +kernel
theorem InsnOps : posternlaw02_InsnOps.Pure := by
  intro a0 w0
  obtain ⟨h0, h1⟩ := bounds_u8 w0
  obtain ⟨n, rfl⟩ := Int.eq_ofNat_of_zero_le h0
  exact ⟨30, all256 ⟨n, by omega⟩⟩
end Go.Proofs.Ytpkgegklpbholaa.Pure
