/- hash: what must be answered ahead of everything else, walked by hand. -/
import Derived.Test.YtfbajampfiodeaaImp07
namespace Go.Proofs.Ytfbajampfiodeaa.First07
open Go.RowKit Go.Proofs.Ytfbajampfiodeaa.PArrayPlays Go.Proofs.YtfbajampfiodeaaW.PrintWords Go.Proofs.YtfbajampfiodeaaW.PrintLast Go.Proofs.YtfbajampfiodeaaW.PrintMore Go.Proofs.Ytfbajampfiodeaa.Mw Go.Proofs.Ytfbajampfiodeaa.Rx Go.Proofs.Ytfbajampfiodeaa.Fresh Go.Proofs.Ytfbajampfiodeaa.RefAbs Go.Proofs.Ytfbajampfiodeaa.Imp07
set_option linter.unusedVariables false
theorem first_calls (w : World) : Calls Try.prog 28 #[] w fun e w' => e = .returned (.bool true) ∧ Below w.heap.size w w' := by
  have P1 : Hid ((put kd (szOf 2) (st0 2) [0, 1] 0).1 = (0, true, 0)) := Lib.hid (by decide +kernel)
  have P2 : Hid ((fnd kd (szOf 2) (put kd (szOf 2) (st0 2) [0, 1] 0).2 [0, 1]).1 = 0) := Lib.hid (by decide +kernel)
  go_enter Try.func28, Try.ntmps28
  go_wp2_with fail
  refine ((new_both 2 2 ⟨by decide, by decide, by decide, by decide⟩).1 w).mono ?_
  rintro e w1 ⟨F, g, rfl, hI, hF, hB⟩
  have HI := Lib.hid hI; have HF := Lib.hid hF; have HB := Lib.hid hB
  clear hI hF hB
  go_wp2_with fail
  have hc := imp_put (HI.out.keep (w' := w1.alloc (.cells #[.int .u8 0, .int .u8 1] 5)) (fun b hb => Below.heap_alloc w1 _ b (HI.out.lt b hb)) (by simp)) (by decide) (some ⟨w1.heap.size, 0, none⟩) 2 [0, 1] 0 (rowC (Row.of (heap_alloc_new w1 _) rfl) (by decide)) (by decide) (by decide) (fun ad e _ h => by cases e; exact Nat.lt_irrefl _ (HI.out.lt _ h))
  rw [P1.out] at hc
  refine hc.mono ?_
  clear hc
  rintro e w2 ⟨rfl, F2, hI2, hS2⟩
  have HI2 := Lib.hid hI2
  have HB2 := Lib.hid (hS2.below (below_alloc HB.out _) HF.out)
  have HF2 := Lib.hid (hS2.low (Nat.le_trans HB.out.size (by simp)) HF.out)
  clear hI2 hS2
  go_wp2_with fail
  have hc := imp_find (HI2.out.keep (w' := w2.alloc (.cells #[.int .u8 0, .int .u8 1] 5)) (fun b hb => Below.heap_alloc w2 _ b (HI2.out.lt b hb)) (by simp)) (some ⟨w2.heap.size, 0, none⟩) 2 [0, 1] (rowC (Row.of (heap_alloc_new w2 _) rfl) (by decide)) (by decide) (by decide) (fun ad e _ h => by cases e; exact Nat.lt_irrefl _ (HI2.out.lt _ h))
  rw [P2.out] at hc
  refine hc.mono ?_
  clear hc
  rintro e w3 ⟨rfl, F3, hI3, hS3⟩
  have HB3 := Lib.hid (hS3.below (below_alloc HB2.out _) HF2.out)
  clear hI3 hS3
  go_wp2
  go_ret
  exact ⟨rfl, HB3.out⟩
end Go.Proofs.Ytfbajampfiodeaa.First07
