/- mem: what must be answered ahead of everything else, walked by hand. -/
import Derived.Test.YtpjgaacdohiomaaMemQ
namespace Go.Proofs.Ytpjgaacdohiomaa.MemF
open Go.RowKit Go.Proofs.Ytpjgaacdohiomaa.PMemCopies Go.Proofs.YtpjgaacdohiomaaW.PrintWords Go.Proofs.YtpjgaacdohiomaaW.PrintLast Go.Proofs.YtpjgaacdohiomaaW.PrintMore Go.Proofs.Ytpjgaacdohiomaa.Mw Go.Proofs.Ytpjgaacdohiomaa.Mem1 Go.Proofs.Ytpjgaacdohiomaa.MemC Go.Proofs.Ytpjgaacdohiomaa.MemQ
set_option linter.unusedVariables false
set_option linter.unusedSimpArgs false
theorem first_calls (w : World) : Calls Try.prog 12 #[] w fun e w' => e = .returned (.bool true) ∧ Below w.heap.size w w' := by
  have P1 : addQ [] 0 100 4 3 = (0, 0, [⟨0, 100, 3, [0, 0, 0, 0], none⟩], 1) := by decide +kernel
  have P2 : storeQ [⟨0, 100, 3, [0, 0, 0, 0], none⟩] 100 4 67305985 = (0, [⟨0, 100, 3, [1, 2, 3, 4], none⟩]) := by decide +kernel
  have P3 : loadQ [⟨0, 100, 3, [1, 2, 3, 4], none⟩] 101 2 = (0, 770) := by decide +kernel
  have HP := Lib.hid (And.intro P1 (And.intro P2 P3))
  clear P1 P2 P3
  go_enter Try.func12, Try.ntmps12
  go_wp2_with fail
  refine (q_new w).mono ?_
  rintro e w1 ⟨F, g, rfl, hM, hF, hB⟩
  have HF := Lib.hid hF; have HB := Lib.hid hB
  have HC := Lib.hid (q_add hM (by omega) 100 4 3 (by omega) (by omega))
  rw [HP.out.1] at HC
  clear hM hF hB
  go_wp2_with fail
  refine HC.out.mono ?_
  rintro e w2 ⟨rfl, F2, hM, hS⟩
  have HB2 := Lib.hid (hS.below HB.out HF.out)
  have HF2 := Lib.hid (hS.low HB.out.size HF.out)
  have HC2 := Lib.hid (q_store hM 100 4 67305985 (by omega) (by omega))
  rw [HP.out.2.1] at HC2
  clear hM hS HC HB HF
  go_wp2_with fail
  refine HC2.out.mono ?_
  rintro e w3 ⟨rfl, hM, hS⟩
  have HB3 := Lib.hid (hS.below HB2.out HF2.out)
  have HC3 := Lib.hid (q_load hM 101 2 (by omega))
  rw [HP.out.2.2] at HC3
  have HM := Lib.hid hM
  clear hM hS HC2 HB2 HF2
  go_wp2_with fail
  refine HC3.out.mono ?_
  rintro e w4 ⟨rfl, hB⟩
  have HC4 := Lib.hid (q_count (HM.out.below hB))
  have HB4 := Lib.hid (HB3.out.trans (hB.mono HB3.out.size))
  clear HM HC3 HB3 hB
  go_wp2_with fail
  refine HC4.out.mono ?_
  rintro e w5 ⟨rfl, rfl⟩
  go_wp2
  go_ret
  exact ⟨rfl, HB4.out⟩
end Go.Proofs.Ytpjgaacdohiomaa.MemF
