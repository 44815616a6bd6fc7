/- lpm: what must be answered ahead of everything else, walked by hand. -/
import Derived.Test.YtfbajampfiodeaaLpm5
namespace Go.Proofs.Ytfbajampfiodeaa.First09
open Go.RowKit Go.Proofs.Ytfbajampfiodeaa.PArrayPlays Go.Proofs.YtfbajampfiodeaaW.PrintWords Go.Proofs.YtfbajampfiodeaaW.PrintLast Go.Proofs.YtfbajampfiodeaaW.PrintMore Go.Proofs.Ytfbajampfiodeaa.Mw Go.Proofs.Ytfbajampfiodeaa.Rx Go.Proofs.Ytfbajampfiodeaa.Fresh Go.Proofs.Ytfbajampfiodeaa.LpmM Go.Proofs.Ytfbajampfiodeaa.LpmI
set_option linter.unusedVariables false
def s1 : St := (put 3 5 (st0 4) [4, 0, 0, 0, 175] 0).2
def s2 : St := (put 3 5 s1 [0, 0, 0, 0, 7] 0).2
theorem ks1 : s1.ks = [some [4, 0, 0, 0, 160], none, none, none] := by decide +kernel
theorem ks2 : s2.ks = [some [4, 0, 0, 0, 160], some [0, 0, 0, 0, 0], none, none] := by decide +kernel
theorem fa : (fnd 3 5 s2 [8, 0, 0, 0, 161]).1 = 0 := by decide +kernel
theorem fb : (fnd 3 5 s2 [3, 0, 0, 0, 161]).1 = 1 := by decide +kernel
theorem first_calls (w : World) : Calls Try.prog 47 #[] w fun e w' => e = .returned (.bool true) ∧ Below w.heap.size w w' := by
  have lit : ∀ {W : World} {F : Nat → Prop} {g n : Nat} {st : St} (l : List Int) (hI : Imp W F g n 5 st), Imp (W.alloc (.cells (l.map (Value.int .u8)).toArray 5)) F g n 5 st := fun l hI => hI.keep (fun b hb => Below.heap_alloc _ _ b (hI.lt b hb)) (by simp)
  go_enter Try.func47, Try.ntmps47
  go_wp2_with fail
  refine (new_imp 5 4 (by decide) w).mono ?_
  rintro e w1 ⟨F, g, rfl, hI, hF, hB⟩
  have HI := Lib.hid hI; have HF := Lib.hid hF; have HB := Lib.hid hB
  clear hI hF hB
  go_wp2_with fail
  have hc := imp_put (HI.out.keep (w' := w1.alloc (.cells #[.int .u8 4, .int .u8 0, .int .u8 0, .int .u8 0, .int .u8 175] 5)) (fun b hb => Below.heap_alloc w1 _ b (HI.out.lt b hb)) (by simp)) (by decide) (some ⟨w1.heap.size, 0, none⟩) 5 [4, 0, 0, 0, 175] 0 (rowC (Row.of (heap_alloc_new w1 _) rfl) (by decide)) (by decide) (by decide) (fun ad e _ h => by cases e; exact Nat.lt_irrefl _ (HI.out.lt _ h))
  refine hc.mono ?_
  clear hc
  rintro e w2 ⟨rfl, F2, hI2, hS2⟩
  have HI2 : Hid (Imp w2 F2 g 1 5 s1) := Lib.hid hI2
  have HB2 := Lib.hid (hS2.below (below_alloc HB.out _) HF.out)
  have HF2 := Lib.hid (hS2.low (Nat.le_trans HB.out.size (by simp)) HF.out)
  clear hI2 hS2
  generalize (put 3 5 (st0 4) [4, 0, 0, 0, 175] 0).1 = r1
  obtain ⟨r11, r12, r13⟩ := r1
  go_wp2_with fail
  have hc := imp_put (HI2.out.keep (w' := w2.alloc (.cells #[.int .u8 0, .int .u8 0, .int .u8 0, .int .u8 0, .int .u8 7] 5)) (fun b hb => Below.heap_alloc w2 _ b (HI2.out.lt b hb)) (by simp)) (by decide) (some ⟨w2.heap.size, 0, none⟩) 5 [0, 0, 0, 0, 7] 0 (rowC (Row.of (heap_alloc_new w2 _) rfl) (by decide)) (by decide) (by decide) (fun ad e _ h => by cases e; exact Nat.lt_irrefl _ (HI2.out.lt _ h))
  refine hc.mono ?_
  clear hc
  rintro e w3 ⟨rfl, F3, hI3, hS3⟩
  have HI3 : Hid (Imp w3 F3 g 2 5 s2) := Lib.hid hI3
  have HB3 := Lib.hid (hS3.below (below_alloc HB2.out _) HF2.out)
  have HF3 := Lib.hid (hS3.low (Nat.le_trans HB2.out.size (by simp)) HF2.out)
  clear hI3 hS3
  generalize (put 3 5 s1 [0, 0, 0, 0, 7] 0).1 = r2
  obtain ⟨r21, r22, r23⟩ := r2
  go_wp2_with fail
  have hc := imp_find (HI3.out.keep (w' := w3.alloc (.cells #[.int .u8 8, .int .u8 0, .int .u8 0, .int .u8 0, .int .u8 161] 5)) (fun b hb => Below.heap_alloc w3 _ b (HI3.out.lt b hb)) (by simp)) (some ⟨w3.heap.size, 0, none⟩) 5 [8, 0, 0, 0, 161] (rowC (Row.of (heap_alloc_new w3 _) rfl) (by decide)) (by decide) (by decide) (fun ad e _ h => by cases e; exact Nat.lt_irrefl _ (HI3.out.lt _ h))
  rw [fa] at hc
  refine hc.mono ?_
  clear hc
  rintro e w4 ⟨rfl, F4, hI4, hS4⟩
  have HI4 : Hid (∃ st, Imp w4 F4 g 3 5 st ∧ st.ks = s2.ks) := Lib.hid ⟨_, hI4, fnd_ks _ _ _ _⟩
  have HB4 := Lib.hid (hS4.below (below_alloc HB3.out _) HF3.out)
  have HF4 := Lib.hid (hS4.low (Nat.le_trans HB3.out.size (by simp)) HF3.out)
  clear hI4 hS4
  go_wp2_with fail
  obtain ⟨st4, hI4, hk4⟩ := HI4.out
  have hI4' : Imp w4 F4 g 3 5 s2 := by
    obtain ⟨gk, N, h⟩ := hI4
    rw [hk4] at h
    exact ⟨gk, N, h⟩
  have hc := imp_find (hI4'.keep (w' := w4.alloc (.cells #[.int .u8 3, .int .u8 0, .int .u8 0, .int .u8 0, .int .u8 161] 5)) (fun b hb => Below.heap_alloc w4 _ b (hI4'.lt b hb)) (by simp)) (some ⟨w4.heap.size, 0, none⟩) 5 [3, 0, 0, 0, 161] (rowC (Row.of (heap_alloc_new w4 _) rfl) (by decide)) (by decide) (by decide) (fun ad e _ h => by cases e; exact Nat.lt_irrefl _ (hI4'.lt _ h))
  rw [fb] at hc
  refine hc.mono ?_
  clear hc hI4 hI4' hk4
  rintro e w5 ⟨rfl, F5, hI5, hS5⟩
  have HB5 := Lib.hid (hS5.below (below_alloc HB4.out _) HF4.out)
  clear hI5 hS5 lit
  go_wp2
  go_ret
  exact ⟨rfl, HB5.out⟩
end Go.Proofs.Ytfbajampfiodeaa.First09
