-- Written by a program of this session (a variant of the print), for this claim. Lean checks it.
import Derived.Test.YtladlljnpmpdpaaPTnumSoundx0
import Derived.Test.YtladlljnpmpdpaaPTnumSoundx1
import Derived.Test.YtladlljnpmpdpaaPTnumSoundx2
import Derived.Test.YtladlljnpmpdpaaPTnumSoundx3
import Derived.Test.YtladlljnpmpdpaaPTnumSoundx4
import Derived.Test.YtladlljnpmpdpaaPTnumSoundx5
import Derived.Test.YtladlljnpmpdpaaPTnumSoundx6
import Derived.Test.YtladlljnpmpdpaaPTnumSoundx7
import Derived.Test.YtladlljnpmpdpaaPTnumSoundx8
namespace Go.Proofs.Ytladlljnpmpdpaa.PTnumSound
open Go.RowKit Go.Proofs.YtladlljnpmpdpaaW.PrintWords Go.Proofs.YtladlljnpmpdpaaW.PrintLast Go.Proofs.YtladlljnpmpdpaaW.PrintMore
attribute [local go_sem] max2_int min2_int max_two min_two max_three min_three max_four min_four   -- for this text's walks alone
set_option linter.unusedVariables false
set_option linter.unusedSimpArgs false

end Go.Proofs.Ytladlljnpmpdpaa.PTnumSound
