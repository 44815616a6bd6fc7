-- Written by a program of this session (a variant of the print), for this claim. Lean checks it.
import Derived.Test.YtndgpadeiljlnaaPArrayAllx0
import Derived.Test.YtndgpadeiljlnaaPArrayAllx1
namespace Go.Proofs.Ytndgpadeiljlnaa.PArrayAll
open Go.RowKit Go.Proofs.YtndgpadeiljlnaaW.PrintWords Go.Proofs.YtndgpadeiljlnaaW.PrintLast Go.Proofs.YtndgpadeiljlnaaW.PrintMore
attribute [local go_sem] max2_int min2_int max_two min_two max_three min_three max_four min_four   -- for this text's walks alone
attribute [local go_sem high] Go.Proofs.Ytndgpadeiljlnaa.NotLaw.not_u64 Go.Proofs.Ytndgpadeiljlnaa.NotLaw.not_u32 Go.Proofs.Ytndgpadeiljlnaa.NotLaw.not_u16 Go.Proofs.Ytndgpadeiljlnaa.NotLaw.not_u8
set_option linter.unusedVariables false
set_option linter.unusedSimpArgs false

end Go.Proofs.Ytndgpadeiljlnaa.PArrayAll
