-- Written by a program of this session (a variant of the print), for this claim. Lean checks it.
import Derived.Test.YtiekhgllnpgjcaaPInsnPlainx0
import Derived.Test.YtiekhgllnpgjcaaPInsnPlainx1
import Derived.Test.YtiekhgllnpgjcaaPInsnPlainx2
import Derived.Test.YtiekhgllnpgjcaaPInsnPlainx3
import Derived.Test.YtiekhgllnpgjcaaPInsnPlainx4
import Derived.Test.YtiekhgllnpgjcaaPInsnPlainx5
import Derived.Test.YtiekhgllnpgjcaaPInsnPlainx6
import Derived.Test.YtiekhgllnpgjcaaPInsnPlainx7
import Derived.Test.YtiekhgllnpgjcaaPInsnPlainx8
namespace Go.Proofs.Ytiekhgllnpgjcaa.PInsnPlain
open Go.RowKit Go.Proofs.YtiekhgllnpgjcaaW.PrintWords Go.Proofs.YtiekhgllnpgjcaaW.PrintLast Go.Proofs.YtiekhgllnpgjcaaW.PrintMore
attribute [local go_sem] max2_int min2_int max_two min_two max_three min_three max_four min_four   -- for this text's walks alone
attribute [local go_sem high] Go.Proofs.Ytiekhgllnpgjcaa.NotLaw.not_u64 Go.Proofs.Ytiekhgllnpgjcaa.NotLaw.not_u32 Go.Proofs.Ytiekhgllnpgjcaa.NotLaw.not_u16 Go.Proofs.Ytiekhgllnpgjcaa.NotLaw.not_u8
set_option linter.unusedVariables false
set_option linter.unusedSimpArgs false

end Go.Proofs.Ytiekhgllnpgjcaa.PInsnPlain
