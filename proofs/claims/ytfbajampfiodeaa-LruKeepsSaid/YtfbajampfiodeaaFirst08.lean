/- lru: what must be answered ahead of everything else, walked by hand. -/
import Derived.Test.YtfbajampfiodeaaImp08
namespace Go.Proofs.Ytfbajampfiodeaa.First08
open Go.RowKit Go.Proofs.Ytfbajampfiodeaa.PArrayPlays Go.Proofs.YtfbajampfiodeaaW.PrintWords Go.Proofs.YtfbajampfiodeaaW.PrintLast Go.Proofs.YtfbajampfiodeaaW.PrintMore Go.Proofs.Ytfbajampfiodeaa.Mw Go.Proofs.Ytfbajampfiodeaa.Rx Go.Proofs.Ytfbajampfiodeaa.Fresh Go.Proofs.Ytfbajampfiodeaa.RefAbs Go.Proofs.Ytfbajampfiodeaa.Imp08
set_option linter.unusedVariables false
abbrev s1 : St := (put kd (szOf 1) (st0 2) [1] 0).2
abbrev s2 : St := (put kd (szOf 1) s1 [2] 0).2
abbrev s3 : St := (fnd kd (szOf 1) s2 [1]).2
abbrev s4 : St := (put kd (szOf 1) s3 [3] 0).2
set_option maxHeartbeats 1000000 in
theorem first_calls (w : World) : Calls Try.prog 37 #[] w fun e w' => e = .returned (.bool true) ∧ Below w.heap.size w w' := by
  have P1 : Hid ((put kd (szOf 1) (st0 2) [1] 0).1 = (0, true, 0)) := Lib.hid (by decide +kernel)
  have P2 : Hid ((put kd (szOf 1) s1 [2] 0).1 = (1, true, 0)) := Lib.hid (by decide +kernel)
  have P3 : Hid ((fnd kd (szOf 1) s2 [1]).1 = 0) := Lib.hid (by decide +kernel)
  have P4 : Hid ((put kd (szOf 1) s3 [3] 0).1 = (1, true, 0)) := Lib.hid (by decide +kernel)
  have P5 : Hid ((fnd kd (szOf 1) s4 [2]).1 = -1) := Lib.hid (by decide +kernel)
  go_enter Try.func37, Try.ntmps37
  go_wp2_with fail
  refine ((new_both 1 2 ⟨by decide, by decide, by decide, by decide⟩).1 w).mono ?_
  rintro e w1 ⟨F1, g, rfl, hI1, hF1, hB1⟩
  have HI1 := Lib.hid hI1; have HF1 := Lib.hid hF1; have HB1 := Lib.hid hB1
  clear hI1 hF1 hB1
  go_wp2_with fail
  have hc := imp_put (HI1.out.keep (w' := w1.alloc (.cells #[.int .u8 1] 5)) (fun b hb => Below.heap_alloc w1 _ b (HI1.out.lt b hb)) (by simp)) (by decide) (some ⟨w1.heap.size, 0, none⟩) 1 [1] 0 (rowC (Row.of (heap_alloc_new w1 _) rfl) (by decide)) (by decide) (by decide) (fun ad e _ h => by cases e; exact Nat.lt_irrefl _ (HI1.out.lt _ h))
  rw [P1.out] at hc
  refine hc.mono ?_
  clear hc
  rintro e w2 ⟨rfl, F2, hI2, hS2⟩
  have HI2 := Lib.hid hI2
  have HB2 := Lib.hid (hS2.below (below_alloc HB1.out _) HF1.out)
  have HF2 := Lib.hid (hS2.low (Nat.le_trans HB1.out.size (by simp)) HF1.out)
  clear hI2 hS2
  go_wp2_with fail
  have hc := imp_put (HI2.out.keep (w' := w2.alloc (.cells #[.int .u8 2] 5)) (fun b hb => Below.heap_alloc w2 _ b (HI2.out.lt b hb)) (by simp)) (by decide) (some ⟨w2.heap.size, 0, none⟩) 1 [2] 0 (rowC (Row.of (heap_alloc_new w2 _) rfl) (by decide)) (by decide) (by decide) (fun ad e _ h => by cases e; exact Nat.lt_irrefl _ (HI2.out.lt _ h))
  rw [P2.out] at hc
  refine hc.mono ?_
  clear hc
  rintro e w3 ⟨rfl, F3, hI3, hS3⟩
  have HI3 := Lib.hid hI3
  have HB3 := Lib.hid (hS3.below (below_alloc HB2.out _) HF2.out)
  have HF3 := Lib.hid (hS3.low (Nat.le_trans HB2.out.size (by simp)) HF2.out)
  clear hI3 hS3
  go_wp2_with fail
  have hc := imp_find (HI3.out.keep (w' := w3.alloc (.cells #[.int .u8 1] 5)) (fun b hb => Below.heap_alloc w3 _ b (HI3.out.lt b hb)) (by simp)) (some ⟨w3.heap.size, 0, none⟩) 1 [1] (rowC (Row.of (heap_alloc_new w3 _) rfl) (by decide)) (by decide) (by decide) (fun ad e _ h => by cases e; exact Nat.lt_irrefl _ (HI3.out.lt _ h))
  rw [P3.out] at hc
  refine hc.mono ?_
  clear hc
  rintro e w4 ⟨rfl, F4, hI4, hS4⟩
  have HI4 := Lib.hid hI4
  have HB4 := Lib.hid (hS4.below (below_alloc HB3.out _) HF3.out)
  have HF4 := Lib.hid (hS4.low (Nat.le_trans HB3.out.size (by simp)) HF3.out)
  clear hI4 hS4
  go_wp2_with fail
  have hc := imp_put (HI4.out.keep (w' := w4.alloc (.cells #[.int .u8 3] 5)) (fun b hb => Below.heap_alloc w4 _ b (HI4.out.lt b hb)) (by simp)) (by decide) (some ⟨w4.heap.size, 0, none⟩) 1 [3] 0 (rowC (Row.of (heap_alloc_new w4 _) rfl) (by decide)) (by decide) (by decide) (fun ad e _ h => by cases e; exact Nat.lt_irrefl _ (HI4.out.lt _ h))
  rw [P4.out] at hc
  refine hc.mono ?_
  clear hc
  rintro e w5 ⟨rfl, F5, hI5, hS5⟩
  have HI5 := Lib.hid hI5
  have HB5 := Lib.hid (hS5.below (below_alloc HB4.out _) HF4.out)
  have HF5 := Lib.hid (hS5.low (Nat.le_trans HB4.out.size (by simp)) HF4.out)
  clear hI5 hS5
  go_wp2_with fail
  have hc := imp_find (HI5.out.keep (w' := w5.alloc (.cells #[.int .u8 2] 5)) (fun b hb => Below.heap_alloc w5 _ b (HI5.out.lt b hb)) (by simp)) (some ⟨w5.heap.size, 0, none⟩) 1 [2] (rowC (Row.of (heap_alloc_new w5 _) rfl) (by decide)) (by decide) (by decide) (fun ad e _ h => by cases e; exact Nat.lt_irrefl _ (HI5.out.lt _ h))
  rw [P5.out] at hc
  refine hc.mono ?_
  clear hc
  rintro e w6 ⟨rfl, F6, hI6, hS6⟩
  have HI6 := Lib.hid hI6
  have HB6 := Lib.hid (hS6.below (below_alloc HB5.out _) HF5.out)
  have HF6 := Lib.hid (hS6.low (Nat.le_trans HB5.out.size (by simp)) HF5.out)
  clear hI6 hS6
  go_wp2
  go_ret
  exact ⟨rfl, HB6.out⟩
end Go.Proofs.Ytfbajampfiodeaa.First08
