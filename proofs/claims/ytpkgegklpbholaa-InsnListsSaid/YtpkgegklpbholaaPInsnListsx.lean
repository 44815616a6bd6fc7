-- Written by a program of this session (a variant of the print), for this claim. Lean checks it.
import Derived.Test.YtpkgegklpbholaaPInsnListsx0
import Derived.Test.YtpkgegklpbholaaPInsnListsx1
import Derived.Test.YtpkgegklpbholaaPInsnListsx2
import Derived.Test.YtpkgegklpbholaaPInsnListsx3
import Derived.Test.YtpkgegklpbholaaPInsnListsx4
import Derived.Test.YtpkgegklpbholaaPInsnListsx5
namespace Go.Proofs.Ytpkgegklpbholaa.PInsnLists
open Go.RowKit Go.Proofs.YtpkgegklpbholaaW.PrintWords Go.Proofs.YtpkgegklpbholaaW.PrintLast Go.Proofs.YtpkgegklpbholaaW.PrintMore
attribute [local go_sem] max2_int min2_int max_two min_two max_three min_three max_four min_four   -- for this text's walks alone
attribute [local go_sem high] Go.Proofs.Ytpkgegklpbholaa.NotLaw.not_u64 Go.Proofs.Ytpkgegklpbholaa.NotLaw.not_u32 Go.Proofs.Ytpkgegklpbholaa.NotLaw.not_u16 Go.Proofs.Ytpkgegklpbholaa.NotLaw.not_u8
set_option linter.unusedVariables false
set_option linter.unusedSimpArgs false

end Go.Proofs.Ytpkgegklpbholaa.PInsnLists
