-- Written by a program of this session (a variant of the print), for this claim. Lean checks it.
import Derived.Test.YtladlljnpmpdpaaProg
import Derived.Below
import Derived.Deep.Draws
import Derived.Deep.AppendLies
import Derived.Maps.AppendAt
import Derived.OwnWalk
import Derived.Laws.BytesArg
import Derived.Laws.MakeOwn
import Derived.Laws.OwnMore
import Derived.Deep.OwnRows
import Derived.Tactics
import Derived.Lib.ConvBytes
import Derived.Laws.Slices
import Derived.WalkKit
import Derived.KernelRfl
import Derived.RowKit3
import Derived.Deep.LoopGhost
import Derived.Deep.QuietTactic
import Derived.BigQuiet
import Derived.WideLaws
import Derived.Deep.DeepCutAuto
import Derived.Deep.CutBlock
import Derived.Deep.RegionHeld3
import Derived.Laws.Rows
import Derived.Lib.AppendStr
import Derived.ArgAppend
import Derived.Laws.IdiomCopy
import Derived.OrdersHeld
import Derived.Laws.BitsLemmas
import Derived.RowKit
import Derived.Test.YtladlljnpmpdpaaShelf
import Derived.Test.YtladlljnpmpdpaaNotLaw
import Derived.Test.YtladlljnpmpdpaaFnLaw
import Derived.Test.YtladlljnpmpdpaaWWords
import Derived.Test.YtladlljnpmpdpaaWLast
import Derived.Test.YtladlljnpmpdpaaWTab
import Derived.Test.YtladlljnpmpdpaaWFour
import Derived.Test.YtladlljnpmpdpaaWQPut
import Derived.Test.YtladlljnpmpdpaaWApart
import Derived.Test.YtladlljnpmpdpaaWArr
import Derived.Test.YtladlljnpmpdpaaWZeros
import Derived.Test.YtladlljnpmpdpaaWFoot
import Derived.Test.YtladlljnpmpdpaaWKept
import Derived.Test.YtladlljnpmpdpaaWShare
import Derived.Test.YtladlljnpmpdpaaWN
import Derived.Test.YtladlljnpmpdpaaWFootNe
import Derived.Test.YtladlljnpmpdpaaWAt
import Derived.Test.YtladlljnpmpdpaaWEqStruct
import Derived.Test.YtladlljnpmpdpaaWRepsOne
import Derived.Test.YtladlljnpmpdpaaWInv
import Derived.Test.YtladlljnpmpdpaaWInvWords
import Derived.Test.YtladlljnpmpdpaaWGuard
import Derived.Test.YtladlljnpmpdpaaWNEv
import Derived.Test.YtladlljnpmpdpaaWMore
namespace Go.Proofs.Ytladlljnpmpdpaa.PTnumSets
open Go.RowKit Go.Proofs.YtladlljnpmpdpaaW.PrintWords Go.Proofs.YtladlljnpmpdpaaW.PrintLast Go.Proofs.YtladlljnpmpdpaaW.PrintMore
attribute [local go_sem] max2_int min2_int max_two min_two max_three min_three max_four min_four   -- for this text's walks alone
attribute [local go_sem high] Go.Proofs.Ytladlljnpmpdpaa.NotLaw.not_u64 Go.Proofs.Ytladlljnpmpdpaa.NotLaw.not_u32 Go.Proofs.Ytladlljnpmpdpaa.NotLaw.not_u16 Go.Proofs.Ytladlljnpmpdpaa.NotLaw.not_u8
set_option linter.unusedVariables false
set_option linter.unusedSimpArgs false



def errW : Option Int → Value
 | none => .nilIface
 | some c => .iface 0 (.int .i64 c)
theorem errW_none : errW none = .nilIface := rfl
theorem errW_some (c : Int) : errW (some c) = .iface 0 (.int .i64 c) := rfl

theorem info22 : (Try.prog.info? 22).map (fun i => (i.zero, i.size, i.bytes)) = some (some (.int .u64 0), 1, 8) := by kernel_rfl
-- the values' own types

end Go.Proofs.Ytladlljnpmpdpaa.PTnumSets
