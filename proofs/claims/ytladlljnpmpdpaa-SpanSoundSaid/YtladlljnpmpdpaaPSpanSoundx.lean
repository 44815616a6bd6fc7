-- Written by a program of this session (a variant of the print), for this claim. Lean checks it.
import Derived.Test.YtladlljnpmpdpaaPSpanSoundx0
import Derived.Test.YtladlljnpmpdpaaPSpanSoundx1
import Derived.Test.YtladlljnpmpdpaaPSpanSoundx2
import Derived.Test.YtladlljnpmpdpaaPSpanSoundx3
import Derived.Test.YtladlljnpmpdpaaPSpanSoundx4
import Derived.Test.YtladlljnpmpdpaaPSpanSoundx5
import Derived.Test.YtladlljnpmpdpaaPSpanSoundx6
import Derived.Test.YtladlljnpmpdpaaPSpanSoundx7
import Derived.Test.YtladlljnpmpdpaaPSpanSoundx8
import Derived.Test.YtladlljnpmpdpaaPSpanSoundx9
import Derived.Test.YtladlljnpmpdpaaPSpanSoundx10
import Derived.Test.YtladlljnpmpdpaaPSpanSoundx11
import Derived.Test.YtladlljnpmpdpaaPSpanSoundx12
import Derived.Test.YtladlljnpmpdpaaPSpanSoundx13
import Derived.Test.YtladlljnpmpdpaaPSpanSoundx14
namespace Go.Proofs.Ytladlljnpmpdpaa.PSpanSound
open Go.RowKit Go.Proofs.YtladlljnpmpdpaaW.PrintWords Go.Proofs.YtladlljnpmpdpaaW.PrintLast Go.Proofs.YtladlljnpmpdpaaW.PrintMore
attribute [local go_sem] max2_int min2_int max_two min_two max_three min_three max_four min_four   -- for this text's walks alone
attribute [local go_sem high] Go.Proofs.Ytladlljnpmpdpaa.NotLaw.not_u64 Go.Proofs.Ytladlljnpmpdpaa.NotLaw.not_u32 Go.Proofs.Ytladlljnpmpdpaa.NotLaw.not_u16 Go.Proofs.Ytladlljnpmpdpaa.NotLaw.not_u8
set_option linter.unusedVariables false
set_option linter.unusedSimpArgs false

end Go.Proofs.Ytladlljnpmpdpaa.PSpanSound
