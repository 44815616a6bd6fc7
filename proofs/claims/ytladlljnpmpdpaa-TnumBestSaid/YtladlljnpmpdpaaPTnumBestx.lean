-- Written by a program of this session (a variant of the print), for this claim. Lean checks it.
import Derived.Test.YtladlljnpmpdpaaPTnumBestx0
import Derived.Test.YtladlljnpmpdpaaPTnumBestx1
import Derived.Test.YtladlljnpmpdpaaPTnumBestx2
import Derived.Test.YtladlljnpmpdpaaPTnumBestx3
import Derived.Test.YtladlljnpmpdpaaPTnumBestx4
import Derived.Test.YtladlljnpmpdpaaPTnumBestx5
import Derived.Test.YtladlljnpmpdpaaPTnumBestx6
import Derived.Test.YtladlljnpmpdpaaPTnumBestx7
import Derived.Test.YtladlljnpmpdpaaPTnumBestx8
namespace Go.Proofs.Ytladlljnpmpdpaa.PTnumBest
open Go.RowKit Go.Proofs.YtladlljnpmpdpaaW.PrintWords Go.Proofs.YtladlljnpmpdpaaW.PrintLast Go.Proofs.YtladlljnpmpdpaaW.PrintMore
attribute [local go_sem] max2_int min2_int max_two min_two max_three min_three max_four min_four   -- for this text's walks alone
attribute [local go_sem high] Go.Proofs.Ytladlljnpmpdpaa.NotLaw.not_u64 Go.Proofs.Ytladlljnpmpdpaa.NotLaw.not_u32 Go.Proofs.Ytladlljnpmpdpaa.NotLaw.not_u16 Go.Proofs.Ytladlljnpmpdpaa.NotLaw.not_u8
set_option linter.unusedVariables false
set_option linter.unusedSimpArgs false

end Go.Proofs.Ytladlljnpmpdpaa.PTnumBest
