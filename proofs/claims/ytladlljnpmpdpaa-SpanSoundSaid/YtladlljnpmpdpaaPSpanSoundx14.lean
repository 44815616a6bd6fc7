import Derived.Test.YtladlljnpmpdpaaPSpanSoundx0
import Derived.Test.YtladlljnpmpdpaaPSpanSoundx1
import Derived.Test.YtladlljnpmpdpaaPSpanSoundx3
import Derived.Test.YtladlljnpmpdpaaPSpanSoundx4
import Derived.Test.YtladlljnpmpdpaaPSpanSoundx6
import Derived.Test.YtladlljnpmpdpaaPSpanSoundx12
import Derived.Test.YtladlljnpmpdpaaPSpanSoundx13
namespace Go.Proofs.Ytladlljnpmpdpaa.PSpanSound
open Go.RowKit Go.Proofs.YtladlljnpmpdpaaW.PrintWords Go.Proofs.YtladlljnpmpdpaaW.PrintLast Go.Proofs.YtladlljnpmpdpaaW.PrintMore
attribute [local go_sem] max2_int min2_int max_two min_two max_three min_three max_four min_four   -- for this text's walks alone
attribute [local go_sem high] Go.Proofs.Ytladlljnpmpdpaa.NotLaw.not_u64 Go.Proofs.Ytladlljnpmpdpaa.NotLaw.not_u32 Go.Proofs.Ytladlljnpmpdpaa.NotLaw.not_u16 Go.Proofs.Ytladlljnpmpdpaa.NotLaw.not_u8
set_option linter.unusedVariables false
set_option linter.unusedSimpArgs false
attribute [local go_sem high] eqA58
mutual
def posternlaw15_SpanSound.j0 : Nat → Int → Int → Int → Bool → Int → Int → Int → Int → Option (Bool)
 | 0, _, _, _, _, _, _, _, _ => none
 | k + 1, x0, x7, x8, x58, x275000, x275001, x275002, x275003 => if x58 = true then (some false) else ((some (([true, false] : List Bool) : List Bool)).bind fun y287 => (posternlaw15_SpanSound.l0 k x0 x7 x8 y287 (y287.length : Int) 0 x275000 x275001 x275002 x275003))
def posternlaw15_SpanSound.l0 : Nat → Int → Int → Int → List Bool → Int → Int → Int → Int → Int → Int → Option (Bool)
 | 0, _, _, _, _, _, _, _, _, _, _ => none
 | k + 1, x0, x7, x8, x59, x60, x61, x275000, x275001, x275002, x275003 => if x61 < x60 then (if 0 ≤ x61 then (if x61 < (x59.length : Int) then ((span_Do.f k x0 (rdOf false x59 x61) x275000 x275001 x275002 x275003).bind fun bt291 => ((posternlaw15_size.f (rdOf false x59 x61)).bind fun t295 => ((posternref05_Do.f k x0 t295 x7 x8).bind fun bt296 => ((span_Const.f x7).bind fun bt298 => ((span_Const.f x8).bind fun bt300 => ((span_Do.f k x0 (rdOf false x59 x61) bt298.1 bt298.2 bt300.1 bt300.2).bind fun bt302 => (if bt296.2 = true then (if bt291.2.2 = 0 then (if bt302.2.2 = 0 then (if bt291.1 > bt296.1 then (some false) else (if bt296.1 > bt291.2.1 then (some false) else (if (!(bt302.1 == bt296.1) || (!(bt302.2.1 == bt296.1))) = true then (some false) else (if rdOf false x59 x61 = true then (posternlaw15_SpanSound.l0 k x0 x7 x8 x59 x60 (wrap64 (x61 + 1)) x275000 x275001 x275002 x275003) else (if (bt291.2.1 / 4294967296) = 0 then (posternlaw15_SpanSound.l0 k x0 x7 x8 x59 x60 (wrap64 (x61 + 1)) x275000 x275001 x275002 x275003) else (some false)))))) else (some false)) else (some false)) else (if bt291.2.2 = 2 then (if bt302.2.2 = 2 then (posternlaw15_SpanSound.j2 k x0 x7 x8 x59 x60 x61 (!(bt291.1 == 0) || (!(bt291.2.1 == 0))) x275000 x275001 x275002 x275003) else (posternlaw15_SpanSound.j2 k x0 x7 x8 x59 x60 x61 true x275000 x275001 x275002 x275003)) else (posternlaw15_SpanSound.j2 k x0 x7 x8 x59 x60 x61 true x275000 x275001 x275002 x275003))))))))) else (none)) else (none)) else (some true)
def posternlaw15_SpanSound.j2 : Nat → Int → Int → Int → List Bool → Int → Int → Bool → Int → Int → Int → Int → Option (Bool)
 | 0, _, _, _, _, _, _, _, _, _, _, _ => none
 | k + 1, x0, x7, x8, x59, x60, x61, x106, x275000, x275001, x275002, x275003 => if x106 = true then (some false) else (posternlaw15_SpanSound.l0 k x0 x7 x8 x59 x60 (wrap64 (x61 + 1)) x275000 x275001 x275002 x275003)
end
def posternlaw15_SpanSound.f (k : Nat) (a0 : Int) (a1_0 : Int) (a1_1 : Int) (a1_2 : Int) (a1_3 : Int) (a2_0 : Int) (a2_1 : Int) : Option (Bool) := (posternlaw15_first.f k).bind fun t276 => (if t276 = true then ((posternref15_Member.f a1_0 a1_1 a2_0).bind fun t277 => ((posternref15_Member.f a1_2 a1_3 a2_1).bind fun t278 => ((span_Has.f a1_0 a1_1 t277).bind fun t279 => (if t279 = true then ((span_Has.f a1_0 a1_1 t278).bind fun t280 => ((posternref15_In.f a1_0 a1_1 t278).bind fun t281 => (if (t280 != t281) = true then (posternlaw15_SpanSound.j0 k a0 t277 t278 true a1_0 a1_1 a1_2 a1_3) else ((span_Any.f).bind fun bt282 => ((span_Has.f bt282.1 bt282.2 t277).bind fun t284 => (if t284 = true then ((span_Const.f t277).bind fun bt285 => (posternlaw15_SpanSound.j0 k a0 t277 t278 (!(bt285.1 == t277) || (!(bt285.2 == t277))) a1_0 a1_1 a1_2 a1_3)) else (posternlaw15_SpanSound.j0 k a0 t277 t278 true a1_0 a1_1 a1_2 a1_3))))))) else (posternlaw15_SpanSound.j0 k a0 t277 t278 true a1_0 a1_1 a1_2 a1_3))))) else (some false))
theorem posternlaw15_SpanSound.mono_l : ∀ k, (∀ y0 y1 y2 y3 y4 y5 y6 y7, LeO (posternlaw15_SpanSound.j0 k y0 y1 y2 y3 y4 y5 y6 y7) (posternlaw15_SpanSound.j0 (k + 1) y0 y1 y2 y3 y4 y5 y6 y7)) ∧ (∀ y0 y1 y2 y3 y4 y5 y6 y7 y8 y9, LeO (posternlaw15_SpanSound.l0 k y0 y1 y2 y3 y4 y5 y6 y7 y8 y9) (posternlaw15_SpanSound.l0 (k + 1) y0 y1 y2 y3 y4 y5 y6 y7 y8 y9)) ∧ (∀ y0 y1 y2 y3 y4 y5 y6 y7 y8 y9 y10, LeO (posternlaw15_SpanSound.j2 k y0 y1 y2 y3 y4 y5 y6 y7 y8 y9 y10) (posternlaw15_SpanSound.j2 (k + 1) y0 y1 y2 y3 y4 y5 y6 y7 y8 y9 y10))
 | 0 => ⟨fun _ _ _ _ _ _ _ _ r h => by simp [posternlaw15_SpanSound.j0] at h, fun _ _ _ _ _ _ _ _ _ _ r h => by simp [posternlaw15_SpanSound.l0] at h, fun _ _ _ _ _ _ _ _ _ _ _ r h => by simp [posternlaw15_SpanSound.j2] at h⟩
 | k + 1 => by
  obtain ⟨ih0, ih1, ih2⟩ := posternlaw15_SpanSound.mono_l k
  refine ⟨?_, ?_, ?_⟩
  ·
   intro y0 y1 y2 y3 y4 y5 y6 y7
   unfold posternlaw15_SpanSound.j0
   repeat' first
   | (with_reducible exact ih0 _ _ _ _ _ _ _ _)
   | (with_reducible exact ih1 _ _ _ _ _ _ _ _ _ _)
   | (with_reducible exact ih2 _ _ _ _ _ _ _ _ _ _ _)
   | (with_reducible exact posternlaw15_first.mono _)
   | (with_reducible exact posternref05_Do.mono _ _ _ _ _)
   | (with_reducible exact span_Do.mono _ _ _ _ _ _ _)
   | (with_reducible exact LeO.refl _)
   | (with_reducible exact LeO.none _)
   | (with_reducible refine LeO.ite ?_ ?_)
   | (with_reducible refine LeO.bind ?_ (fun _ => ?_))
   | exact ih0 _ _ _ _ _ _ _ _
   | exact ih1 _ _ _ _ _ _ _ _ _ _
   | exact ih2 _ _ _ _ _ _ _ _ _ _ _
   | exact posternlaw15_first.mono _
   | exact posternref05_Do.mono _ _ _ _ _
   | exact span_Do.mono _ _ _ _ _ _ _
   | exact LeO.none _
   | refine LeO.ite ?_ ?_
   | refine LeO.bind ?_ (fun _ => ?_)
  ·
   intro y0 y1 y2 y3 y4 y5 y6 y7 y8 y9
   unfold posternlaw15_SpanSound.l0
   repeat' first
   | (with_reducible exact ih0 _ _ _ _ _ _ _ _)
   | (with_reducible exact ih1 _ _ _ _ _ _ _ _ _ _)
   | (with_reducible exact ih2 _ _ _ _ _ _ _ _ _ _ _)
   | (with_reducible exact posternlaw15_first.mono _)
   | (with_reducible exact posternref05_Do.mono _ _ _ _ _)
   | (with_reducible exact span_Do.mono _ _ _ _ _ _ _)
   | (with_reducible exact LeO.refl _)
   | (with_reducible exact LeO.none _)
   | (with_reducible refine LeO.ite ?_ ?_)
   | (with_reducible refine LeO.bind ?_ (fun _ => ?_))
   | exact ih0 _ _ _ _ _ _ _ _
   | exact ih1 _ _ _ _ _ _ _ _ _ _
   | exact ih2 _ _ _ _ _ _ _ _ _ _ _
   | exact posternlaw15_first.mono _
   | exact posternref05_Do.mono _ _ _ _ _
   | exact span_Do.mono _ _ _ _ _ _ _
   | exact LeO.none _
   | refine LeO.ite ?_ ?_
   | refine LeO.bind ?_ (fun _ => ?_)
  ·
   intro y0 y1 y2 y3 y4 y5 y6 y7 y8 y9 y10
   unfold posternlaw15_SpanSound.j2
   repeat' first
   | (with_reducible exact ih0 _ _ _ _ _ _ _ _)
   | (with_reducible exact ih1 _ _ _ _ _ _ _ _ _ _)
   | (with_reducible exact ih2 _ _ _ _ _ _ _ _ _ _ _)
   | (with_reducible exact posternlaw15_first.mono _)
   | (with_reducible exact posternref05_Do.mono _ _ _ _ _)
   | (with_reducible exact span_Do.mono _ _ _ _ _ _ _)
   | (with_reducible exact LeO.refl _)
   | (with_reducible exact LeO.none _)
   | (with_reducible refine LeO.ite ?_ ?_)
   | (with_reducible refine LeO.bind ?_ (fun _ => ?_))
   | exact ih0 _ _ _ _ _ _ _ _
   | exact ih1 _ _ _ _ _ _ _ _ _ _
   | exact ih2 _ _ _ _ _ _ _ _ _ _ _
   | exact posternlaw15_first.mono _
   | exact posternref05_Do.mono _ _ _ _ _
   | exact span_Do.mono _ _ _ _ _ _ _
   | exact LeO.none _
   | refine LeO.ite ?_ ?_
   | refine LeO.bind ?_ (fun _ => ?_)
theorem posternlaw15_SpanSound.mono : ∀ a0 a1 a2 a3 a4 a5 a6 k, LeO (posternlaw15_SpanSound.f k a0 a1 a2 a3 a4 a5 a6) (posternlaw15_SpanSound.f (k + 1) a0 a1 a2 a3 a4 a5 a6) := by
 intro a0 a1 a2 a3 a4 a5 a6 k
 obtain ⟨ih0, ih1, ih2⟩ := posternlaw15_SpanSound.mono_l k
 unfold posternlaw15_SpanSound.f
 repeat' first
   | (with_reducible exact ih0 _ _ _ _ _ _ _ _)
   | (with_reducible exact ih1 _ _ _ _ _ _ _ _ _ _)
   | (with_reducible exact ih2 _ _ _ _ _ _ _ _ _ _ _)
   | (with_reducible exact posternlaw15_first.mono _)
   | (with_reducible exact posternref05_Do.mono _ _ _ _ _)
   | (with_reducible exact span_Do.mono _ _ _ _ _ _ _)
   | (with_reducible exact LeO.refl _)
   | (with_reducible exact LeO.none _)
   | (with_reducible refine LeO.ite ?_ ?_)
   | (with_reducible refine LeO.bind ?_ (fun _ => ?_))
   | exact ih0 _ _ _ _ _ _ _ _
   | exact ih1 _ _ _ _ _ _ _ _ _ _
   | exact ih2 _ _ _ _ _ _ _ _ _ _ _
   | exact posternlaw15_first.mono _
   | exact posternref05_Do.mono _ _ _ _ _
   | exact span_Do.mono _ _ _ _ _ _ _
   | exact LeO.none _
   | refine LeO.ite ?_ ?_
   | refine LeO.bind ?_ (fun _ => ?_)
def posternlaw15_SpanSound.T3 : Bool × List (List Nat × List Nat) := (true, [([], []), ([0], [0]), ([], []), ([2], [2]), ([1, 3], [1, 3]), ([], []), ([5], [5]), ([], []), ([7], [7]), ([6, 8, 4], [6, 8]), ([4, 9, 0, 1, 2, 3, 4], [4]), ([9, 10, 0, 1, 2, 3, 4, 5, 6, 7, 8, 9, 10], [9])])
def posternlaw15_SpanSound.B3 : List Nat := [0, 1, 0, 4, 15, 0, 32, 0, 128, 511, 1023, 2047]
theorem posternlaw15_SpanSound.tab3 : rtab .any (opsOf Try.f11 3) = posternlaw15_SpanSound.T3 := by kernel_rfl
theorem posternlaw15_SpanSound.bits3 : waitsOk posternlaw15_SpanSound.T3.2 posternlaw15_SpanSound.B3 = true := by kernel_rfl
def posternlaw15_SpanSound.T4 : Bool × List (List Nat × List Nat) := (true, [([], []), ([0], [0]), ([], []), ([1, 2], [1, 2]), ([3], [3]), ([4, 3], [4]), ([5], [5]), ([6, 5], [5, 6]), ([5], [5]), ([7, 8, 5, 5], [5, 7, 8]), ([5], [5]), ([10, 5], [5, 10]), ([5], [5]), ([11, 12, 9, 5], [5, 11, 12]), ([9, 13, 5], [5, 9, 13]), ([5, 14], [5, 14]), ([15, 13], [15]), ([16, 16], [16]), ([16], [16]), ([17, 18, 17, 16], [16, 17, 18]), ([19, 16], [16, 19]), ([16, 20], [16, 20]), ([21, 19], [21]), ([22], [22]), ([23, 22, 22], [22, 23]), ([22], [22]), ([22], [22]), ([25, 26, 22], [22, 25, 26]), ([24, 27, 22], [22, 24, 27]), ([22, 28], [22, 28])])
def posternlaw15_SpanSound.B4 : List Nat := [0, 1, 0, 7, 15, 31, 63, 127, 63, 511, 63, 1087, 63, 8191, 16383, 32767, 65535, 131071, 131071, 524287, 1048575, 2097151, 4194303, 8388607, 16777215, 8388607, 8388607, 109051903, 268435455, 536870911]
theorem posternlaw15_SpanSound.tab4 : rtab .any (opsOf Try.f11 4) = posternlaw15_SpanSound.T4 := by kernel_rfl
theorem posternlaw15_SpanSound.bits4 : waitsOk posternlaw15_SpanSound.T4.2 posternlaw15_SpanSound.B4 = true := by kernel_rfl
set_option maxHeartbeats 8000000 in
set_option maxRecDepth 100000 in
theorem posternlaw15_SpanSound.calls (k : Nat) (a0 : Int) (a1_0 : Int) (a1_1 : Int) (a1_2 : Int) (a1_3 : Int) (a2_0 : Int) (a2_1 : Int) (r : Bool) (w : World) (hr_ : Aside0 (r = true)) (h : posternlaw15_SpanSound.f k a0 a1_0 a1_1 a1_2 a1_3 a2_0 a2_1 = some r) :
  Calls Try.prog 11 #[.int .i64 a0, .agg #[.int .u64 a1_0, .int .u64 a1_1, .int .u64 a1_2, .int .u64 a1_3], .agg #[.int .u64 a2_0, .int .u64 a2_1]] w fun e w' => e = .returned (.bool r) ∧ Below w.heap.size w w' := by
 have hu63 := Try.underlying63
 have hu26 := Try.underlying26
 have hu58 := Try.underlying58
 have HB := Aside0.mk (Below.refl w.heap.size w)
 have H : ((posternlaw15_first.f k).bind fun t276 => (if t276 = true then ((posternref15_Member.f a1_0 a1_1 a2_0).bind fun t277 => ((posternref15_Member.f a1_2 a1_3 a2_1).bind fun t278 => ((span_Has.f a1_0 a1_1 t277).bind fun t279 => (if t279 = true then ((span_Has.f a1_0 a1_1 t278).bind fun t280 => ((posternref15_In.f a1_0 a1_1 t278).bind fun t281 => (if (t280 != t281) = true then (posternlaw15_SpanSound.j0 k a0 t277 t278 true a1_0 a1_1 a1_2 a1_3) else ((span_Any.f).bind fun bt282 => ((span_Has.f bt282.1 bt282.2 t277).bind fun t284 => (if t284 = true then ((span_Const.f t277).bind fun bt285 => (posternlaw15_SpanSound.j0 k a0 t277 t278 (!(bt285.1 == t277) || (!(bt285.2 == t277))) a1_0 a1_1 a1_2 a1_3)) else (posternlaw15_SpanSound.j0 k a0 t277 t278 true a1_0 a1_1 a1_2 a1_3))))))) else (posternlaw15_SpanSound.j0 k a0 t277 t278 true a1_0 a1_1 a1_2 a1_3))))) else (some false))) = some r := h
 clear h; replace H := Option.bind_eq_some_iff.mp H; obtain ⟨t276, A40, H⟩ := H
 replace H : (if t276 = true then ((posternref15_Member.f a1_0 a1_1 a2_0).bind fun t277 => ((posternref15_Member.f a1_2 a1_3 a2_1).bind fun t278 => ((span_Has.f a1_0 a1_1 t277).bind fun t279 => (if t279 = true then ((span_Has.f a1_0 a1_1 t278).bind fun t280 => ((posternref15_In.f a1_0 a1_1 t278).bind fun t281 => (if (t280 != t281) = true then (posternlaw15_SpanSound.j0 k a0 t277 t278 true a1_0 a1_1 a1_2 a1_3) else ((span_Any.f).bind fun bt282 => ((span_Has.f bt282.1 bt282.2 t277).bind fun t284 => (if t284 = true then ((span_Const.f t277).bind fun bt285 => (posternlaw15_SpanSound.j0 k a0 t277 t278 (!(bt285.1 == t277) || (!(bt285.2 == t277))) a1_0 a1_1 a1_2 a1_3)) else (posternlaw15_SpanSound.j0 k a0 t277 t278 true a1_0 a1_1 a1_2 a1_3))))))) else (posternlaw15_SpanSound.j0 k a0 t277 t278 true a1_0 a1_1 a1_2 a1_3))))) else (some false)) = some r := H
 have A4 := Aside0.mk A40; clear A40
 by_cases c5 : t276 = true
 ·
  subst c5
  have H1 : ((posternref15_Member.f a1_0 a1_1 a2_0).bind fun t277 => ((posternref15_Member.f a1_2 a1_3 a2_1).bind fun t278 => ((span_Has.f a1_0 a1_1 t277).bind fun t279 => (if t279 = true then ((span_Has.f a1_0 a1_1 t278).bind fun t280 => ((posternref15_In.f a1_0 a1_1 t278).bind fun t281 => (if (t280 != t281) = true then (posternlaw15_SpanSound.j0 k a0 t277 t278 true a1_0 a1_1 a1_2 a1_3) else ((span_Any.f).bind fun bt282 => ((span_Has.f bt282.1 bt282.2 t277).bind fun t284 => (if t284 = true then ((span_Const.f t277).bind fun bt285 => (posternlaw15_SpanSound.j0 k a0 t277 t278 (!(bt285.1 == t277) || (!(bt285.2 == t277))) a1_0 a1_1 a1_2 a1_3)) else (posternlaw15_SpanSound.j0 k a0 t277 t278 true a1_0 a1_1 a1_2 a1_3))))))) else (posternlaw15_SpanSound.j0 k a0 t277 t278 true a1_0 a1_1 a1_2 a1_3))))) = some r := by rw [if_pos rfl] at H; exact H
  clear H; have H := H1; clear H1; replace H := Option.bind_eq_some_iff.mp H; obtain ⟨t277, A60, H⟩ := H
  replace H : ((posternref15_Member.f a1_2 a1_3 a2_1).bind fun t278 => ((span_Has.f a1_0 a1_1 t277).bind fun t279 => (if t279 = true then ((span_Has.f a1_0 a1_1 t278).bind fun t280 => ((posternref15_In.f a1_0 a1_1 t278).bind fun t281 => (if (t280 != t281) = true then (posternlaw15_SpanSound.j0 k a0 t277 t278 true a1_0 a1_1 a1_2 a1_3) else ((span_Any.f).bind fun bt282 => ((span_Has.f bt282.1 bt282.2 t277).bind fun t284 => (if t284 = true then ((span_Const.f t277).bind fun bt285 => (posternlaw15_SpanSound.j0 k a0 t277 t278 (!(bt285.1 == t277) || (!(bt285.2 == t277))) a1_0 a1_1 a1_2 a1_3)) else (posternlaw15_SpanSound.j0 k a0 t277 t278 true a1_0 a1_1 a1_2 a1_3))))))) else (posternlaw15_SpanSound.j0 k a0 t277 t278 true a1_0 a1_1 a1_2 a1_3)))) = some r := H
  have A6 := Aside0.mk A60; clear A60; replace H := Option.bind_eq_some_iff.mp H; obtain ⟨t278, A70, H⟩ := H
  replace H : ((span_Has.f a1_0 a1_1 t277).bind fun t279 => (if t279 = true then ((span_Has.f a1_0 a1_1 t278).bind fun t280 => ((posternref15_In.f a1_0 a1_1 t278).bind fun t281 => (if (t280 != t281) = true then (posternlaw15_SpanSound.j0 k a0 t277 t278 true a1_0 a1_1 a1_2 a1_3) else ((span_Any.f).bind fun bt282 => ((span_Has.f bt282.1 bt282.2 t277).bind fun t284 => (if t284 = true then ((span_Const.f t277).bind fun bt285 => (posternlaw15_SpanSound.j0 k a0 t277 t278 (!(bt285.1 == t277) || (!(bt285.2 == t277))) a1_0 a1_1 a1_2 a1_3)) else (posternlaw15_SpanSound.j0 k a0 t277 t278 true a1_0 a1_1 a1_2 a1_3))))))) else (posternlaw15_SpanSound.j0 k a0 t277 t278 true a1_0 a1_1 a1_2 a1_3))) = some r := H
  have A7 := Aside0.mk A70; clear A70
  have HC8 := Aside0.mk H
  clear H
  go_enter Try.func11, Try.ntmps11
  try go_wp2_with (first | ((with_reducible refine gate_dst (N := 4) rfl ?_); refine box_event ?hg (N := 4) ?hd (cs := #[.int .u64 a1_0, .int .u64 a1_1, .int .u64 a1_2, .int .u64 a1_3]) (t := 63) ?hr ?_; (case hd => rfl); (case hg => rfl); (case hr => first | (go_simp; done) | (go_simp; rfl)); intro gb274 hg w9 hbox hb; have n0_ := Aside0.mk (below_step (by repeat (first | (with_reducible first | exact HB.out | apply lA | apply lN | apply lD) | exact HB.out)) hb); have n1_ := Aside0.mk (hbox); have n2_ := Aside0.mk ((by rw [hg]; exact (below_size (by repeat (first | (with_reducible first | exact HB.out | apply lA | apply lN | apply lD) | exact HB.out))) : w.heap.size ≤ gb274)); have n3_ := n2_; clear HB; have HB := n0_; have BK274 := n1_; have GW274 := n2_; have GE274 := n3_; clear n0_ n1_ n2_ n3_; clear hb hbox hg) | ((with_reducible refine gate_dst (N := 5) rfl ?_); refine box_event ?hg (N := 5) ?hd (cs := #[.int .u64 a2_0, .int .u64 a2_1]) (t := 26) ?hr ?_; (case hd => rfl); (case hg => rfl); (case hr => first | (go_simp; done) | (go_simp; rfl)); intro gb275 hg w10 hbox hb; have n0_ := Aside0.mk (blk_below (g := gb274) (o := .cells #[.int .u64 a1_0, .int .u64 a1_1, .int .u64 a1_2, .int .u64 a1_3] 63 (0, 0)) (by (with_reducible repeat (first | apply bN | apply bD | apply bA)); exact BK274.out) hb); have n1_ := Aside0.mk (below_step (by repeat (first | (with_reducible first | exact HB.out | apply lA | apply lN | apply lD | refine lS ?_ ‹_›) | exact HB.out)) hb); have n2_ := Aside0.mk (hbox); have n3_ := Aside0.mk ((by rw [hg]; exact (below_size (by repeat (first | (with_reducible first | exact HB.out | apply lA | apply lN | apply lD | refine lS ?_ ‹_›) | exact HB.out))) : w.heap.size ≤ gb275)); have n4_ := n3_; have n5_ := Aside0.mk ((by rw [hg]; exact Nat.ne_of_lt (blk_lt (g := gb274) (o := .cells #[.int .u64 a1_0, .int .u64 a1_1, .int .u64 a1_2, .int .u64 a1_3] 63 (0, 0)) (by (with_reducible repeat (first | apply bN | apply bD | apply bA)); exact BK274.out)) : gb274 ≠ gb275)); have n6_ := sy n5_; clear BK274; clear HB; have BK274 := n0_; have HB := n1_; have BK275 := n2_; have GW275 := n3_; have GE275 := n4_; have NB274_275 := n5_; have NB275_274 := n6_; clear n0_ n1_ n2_ n3_ n4_ n5_ n6_; clear hb hbox hg) | ((with_reducible refine gate_callee (f := 29) rfl ?_); refine goesL_ (some 17) rfl rfl Try.func29 (by kernel_rfl) rfl #[] rfl (by (try simp only [List.map_toArray, List.map_cons, List.map_nil]); first | done | rfl | (simp only [List.length_drop, List.length_take]; rfl)) ?_; (with_reducible refine (posternlaw15_first.calls k  true _ A4.out).mono ?_); rintro e w11 ⟨rfl, hb⟩; refine ⟨_, rfl, ?_⟩; have n0_ := Aside0.mk (blk_below (g := gb274) (o := .cells #[.int .u64 a1_0, .int .u64 a1_1, .int .u64 a1_2, .int .u64 a1_3] 63 (0, 0)) (by (with_reducible repeat (first | apply bN | apply bD | apply bA)); exact BK274.out) hb); have n1_ := Aside0.mk (blk_below (g := gb275) (o := .cells #[.int .u64 a2_0, .int .u64 a2_1] 26 (0, 0)) (by (with_reducible repeat (first | apply bN | apply bD | apply bA)); exact BK275.out) hb); have n2_ := Aside0.mk (below_step (by repeat (first | (with_reducible first | exact HB.out | apply lA | apply lN | apply lD | refine lS ?_ ‹_›) | exact HB.out)) hb); clear BK274; clear BK275; clear HB; have BK274 := n0_; have BK275 := n1_; have HB := n2_; clear n0_ n1_ n2_; (try clear hb); (try clear hb2); (try clear hk); (try clear hi)))
  have n0_ := Aside0.mk (blk_drew BK274.out); have n1_ := Aside0.mk (blk_drew BK275.out)
  have n2_ := Aside0.mk (below_drew1 HB.out)
  clear BK274; clear BK275; clear HB; have BK274 := n0_; have BK275 := n1_; have HB := n2_; clear n0_ n1_ n2_
  refine start_ (n := 12) (S := fun w' => w'.cell? ⟨gb274, 0, none⟩ = some (.int .u64 a1_0) ∧ w'.cell? ⟨gb274, 1, none⟩ = some (.int .u64 a1_1) ∧ w'.cell? ⟨gb274, 2, none⟩ = some (.int .u64 a1_2) ∧ w'.cell? ⟨gb274, 3, none⟩ = some (.int .u64 a1_3) ∧ w'.cell? ⟨gb275, 0, none⟩ = some (.int .u64 a2_0) ∧ w'.cell? ⟨gb275, 1, none⟩ = some (.int .u64 a2_1)) (ds := []) #[false, false, false, false, false, false, false, false, false, false, false, false] (by kernel_rfl) rfl rfl ⟨(blk_cell BK274.out 0).trans rfl, (blk_cell BK274.out 1).trans rfl, (blk_cell BK274.out 2).trans rfl, (blk_cell BK274.out 3).trans rfl, (blk_cell BK275.out 0).trans rfl, (blk_cell BK275.out 1).trans rfl⟩ (fun hHeld => ?_); refine with_tabW posternlaw15_SpanSound.tab3 posternlaw15_SpanSound.bits3 (fun HT_ HW_ => ?_)
  generalize w11.drew = w12 at BK274 BK275 HB hHeld ⊢
  refine pure_ (i := 0) (N := some 19) (v := ?_) (a' := ?_) #[true, false, false, false, false, false, false, false, false, false, false, false] rfl rfl (any_of HT_.out (by kernel_rfl)) (fun _ _ _ h => h) (Or.inl ⟨by rfl, ?_⟩) ?_ ?_
  rotate_left
  · intro w'; go_simp; with_reducible rfl
  rotate_left
  · simp only [Act.put, qT, q0, q1, i64_w, i32_w]; rfl
  refine pure_ (i := 2) (N := some 21) (v := ?_) (a' := ?_) #[true, false, true, false, false, false, false, false, false, false, false, false] rfl rfl (any_of HT_.out (by kernel_rfl)) (fun _ _ _ h => h) (Or.inl ⟨by rfl, ?_⟩) ?_ ?_
  rotate_left
  · intro w'; go_simp; with_reducible rfl
  rotate_left
  · simp only [Act.put, qT, q0, q1, i64_w, i32_w]; rfl
  refine pure_ (i := 5) (N := some 24) (v := ?_) (a' := ?_) #[true, false, true, false, false, true, false, false, false, false, false, false] rfl rfl (any_of HT_.out (by kernel_rfl)) (fun _ _ _ h => h) (Or.inl ⟨by rfl, ?_⟩) ?_ ?_
  rotate_left
  · intro w'; go_simp; with_reducible rfl
  rotate_left
  · simp only [Act.put, qT, q0, q1, i64_w, i32_w]; rfl
  refine pure_ (i := 7) (N := some 26) (v := ?_) (a' := ?_) #[true, false, true, false, false, true, false, true, false, false, false, false] rfl rfl (any_of HT_.out (by kernel_rfl)) (fun _ _ _ h => h) (Or.inl ⟨by rfl, ?_⟩) ?_ ?_
  rotate_left
  · intro w'; go_simp; with_reducible rfl
  rotate_left
  · simp only [Act.put, qT, q0, q1, i64_w, i32_w]; rfl
  refine take_ (i := 1) (N := some 20) (v := ?_) (a' := ?_) #[true, true, true, false, false, true, false, true, false, false, false, false] rfl rfl (take_ofW HT_.out HW_.out (by kernel_rfl)) (fun _ _ _ h => h) (Or.inl ⟨by rfl, ?_⟩) hHeld ?_ ?_
  rotate_left
  ·
   rintro w' ⟨s0, s1, s2, s3, s4, s5⟩
   go_simp; with_reducible rfl
  rotate_left
  · simp only [Act.put, qT, q0, q1, i64_w, i32_w]; rfl
  refine take_ (i := 3) (N := some 22) (v := ?_) (a' := ?_) #[true, true, true, true, false, true, false, true, false, false, false, false] rfl rfl (take_ofW HT_.out HW_.out (by kernel_rfl)) (fun _ _ _ h => h) (Or.inl ⟨by rfl, ?_⟩) hHeld ?_ ?_
  rotate_left
  ·
   rintro w' ⟨s0, s1, s2, s3, s4, s5⟩
   go_simp; with_reducible rfl
  rotate_left
  · simp only [Act.put, qT, q0, q1, i64_w, i32_w]; rfl
  refine take_ (i := 6) (N := some 25) (v := ?_) (a' := ?_) #[true, true, true, true, false, true, true, true, false, false, false, false] rfl rfl (take_ofW HT_.out HW_.out (by kernel_rfl)) (fun _ _ _ h => h) (Or.inl ⟨by rfl, ?_⟩) hHeld ?_ ?_
  rotate_left
  ·
   rintro w' ⟨s0, s1, s2, s3, s4, s5⟩
   go_simp; with_reducible rfl
  rotate_left
  · simp only [Act.put, qT, q0, q1, i64_w, i32_w]; rfl
  refine take_ (i := 8) (N := some 27) (v := ?_) (a' := ?_) #[true, true, true, true, false, true, true, true, true, false, false, false] rfl rfl (take_ofW HT_.out HW_.out (by kernel_rfl)) (fun _ _ _ h => h) (Or.inl ⟨by rfl, ?_⟩) hHeld ?_ ?_
  rotate_left
  ·
   rintro w' ⟨s0, s1, s2, s3, s4, s5⟩
   go_simp; with_reducible rfl
  rotate_left
  · simp only [Act.put, qT, q0, q1, i64_w, i32_w]; rfl
  refine one_ (i := 4) (N := some 23) #[true, true, true, true, true, true, true, true, true, false, false, false] rfl rfl (one_of HT_.out (by kernel_rfl)) (by decide) (fun K hK => ?_)
  refine goes_ Try.func33 (by kernel_rfl) rfl #[.agg #[.int .u64 a1_0, .int .u64 a1_1], .int .u64 a2_0] (by rfl) rfl rfl (by (try simp only [List.map_toArray, List.map_cons, List.map_nil]); first | done | rfl | (simp only [List.length_drop, List.length_take]; rfl)) ?_
  with_reducible refine (posternref15_Member.calls a1_0 a1_1 a2_0 t277 _ A6.out).mono ?_
  rintro e w13 ⟨rfl, hb⟩; refine ⟨_, rfl, ?_⟩
  have n0_ := Aside0.mk (blk_below (g := gb274) (o := .cells #[.int .u64 a1_0, .int .u64 a1_1, .int .u64 a1_2, .int .u64 a1_3] 63 (0, 0)) (by (with_reducible repeat (first | apply bN | apply bD | apply bA)); exact BK274.out) hb)
  have n1_ := Aside0.mk (blk_below (g := gb275) (o := .cells #[.int .u64 a2_0, .int .u64 a2_1] 26 (0, 0)) (by (with_reducible repeat (first | apply bN | apply bD | apply bA)); exact BK275.out) hb)
  have n2_ := Aside0.mk (below_step (by repeat (first | (with_reducible first | exact HB.out | apply lA | apply lN | apply lD | refine lS ?_ ‹_›) | exact HB.out)) hb)
  clear BK274; clear BK275; clear HB; have BK274 := n0_; have BK275 := n1_; have HB := n2_; clear n0_ n1_ n2_; (try clear hb); (try clear hb2); (try clear hk); (try clear hi)
  refine hK.out _ _ ⟨(blk_cell BK274.out 0).trans rfl, (blk_cell BK274.out 1).trans rfl, (blk_cell BK274.out 2).trans rfl, (blk_cell BK274.out 3).trans rfl, (blk_cell BK275.out 0).trans rfl, (blk_cell BK275.out 1).trans rfl⟩ (fun hHeld => ?_)
  clear hK K
  refine norm_ (a' := ?_) ?_ ?_
  rotate_left
  ·
   show Act.put _ (some 23) _ = _
   simp only [Act.put, qT, q0, q1, i64_w, i32_w]; rfl
  refine one_ (i := 9) (N := some 28) #[true, true, true, true, true, true, true, true, true, true, false, false] rfl rfl (one_of HT_.out (by kernel_rfl)) (by decide) (fun K hK => ?_)
  refine goes_ Try.func33 (by kernel_rfl) rfl #[.agg #[.int .u64 a1_2, .int .u64 a1_3], .int .u64 a2_1] (by rfl) rfl rfl (by (try simp only [List.map_toArray, List.map_cons, List.map_nil]); first | done | rfl | (simp only [List.length_drop, List.length_take]; rfl)) ?_
  with_reducible refine (posternref15_Member.calls a1_2 a1_3 a2_1 t278 _ A7.out).mono ?_
  rintro e w14 ⟨rfl, hb⟩; refine ⟨_, rfl, ?_⟩
  have n0_ := Aside0.mk (blk_below (g := gb274) (o := .cells #[.int .u64 a1_0, .int .u64 a1_1, .int .u64 a1_2, .int .u64 a1_3] 63 (0, 0)) (by (with_reducible repeat (first | apply bN | apply bD | apply bA)); exact BK274.out) hb)
  have n1_ := Aside0.mk (blk_below (g := gb275) (o := .cells #[.int .u64 a2_0, .int .u64 a2_1] 26 (0, 0)) (by (with_reducible repeat (first | apply bN | apply bD | apply bA)); exact BK275.out) hb)
  have n2_ := Aside0.mk (below_step (by repeat (first | (with_reducible first | exact HB.out | apply lA | apply lN | apply lD | refine lS ?_ ‹_›) | exact HB.out)) hb)
  clear BK274; clear BK275; clear HB; have BK274 := n0_; have BK275 := n1_; have HB := n2_; clear n0_ n1_ n2_; (try clear hb); (try clear hb2); (try clear hk); (try clear hi)
  refine hK.out _ _ ⟨(blk_cell BK274.out 0).trans rfl, (blk_cell BK274.out 1).trans rfl, (blk_cell BK274.out 2).trans rfl, (blk_cell BK274.out 3).trans rfl, (blk_cell BK275.out 0).trans rfl, (blk_cell BK275.out 1).trans rfl⟩ (fun hHeld => ?_)
  clear hK K
  refine norm_ (a' := ?_) ?_ ?_
  rotate_left
  ·
   show Act.put _ (some 28) _ = _
   simp only [Act.put, qT, q0, q1, i64_w, i32_w]; rfl
  refine pure_ (i := 10) (N := some 7) (v := ?_) (a' := ?_) #[true, true, true, true, true, true, true, true, true, true, true, false] rfl rfl (any_of HT_.out (by kernel_rfl)) (fun _ _ _ h => h) (Or.inl ⟨by rfl, ?_⟩) ?_ ?_
  rotate_left
  · intro w'; go_simp; with_reducible rfl
  rotate_left
  · simp only [Act.put, qT, q0, q1, i64_w, i32_w]; rfl
  refine pure_ (i := 11) (N := some 8) (v := ?_) (a' := ?_) #[true, true, true, true, true, true, true, true, true, true, true, true] rfl rfl (any_of HT_.out (by kernel_rfl)) (fun _ _ _ h => h) (Or.inl ⟨by rfl, ?_⟩) ?_ ?_
  rotate_left
  · intro w'; go_simp; with_reducible rfl
  rotate_left
  · simp only [Act.put, qT, q0, q1, i64_w, i32_w]; rfl
  refine done_ (done_of HT_.out (by kernel_rfl)) ?_
  go_upto_region 4 with (fail)
  go_cut [58] (fun v58 wc => ∃ (kq : Nat) (x58_7 : Bool), v58 = .bool x58_7 ∧ Aside0 (posternlaw15_SpanSound.j0 kq a0 t277 t278 x58_7 a1_0 a1_1 a1_2 a1_3 = some r) ∧ Aside0 (kq ≤ k) ∧ Aside0 (wc.heap[gb274]? = some (.cells #[.int .u64 a1_0, .int .u64 a1_1, .int .u64 a1_2, .int .u64 a1_3] 63 (0, 0))) ∧ Aside0 (wc.heap[gb275]? = some (.cells #[.int .u64 a2_0, .int .u64 a2_1] 26 (0, 0))) ∧ Aside0 (Below w.heap.size w wc))
  case first =>
   have H := HC8.out
   clear HC8; replace H := Option.bind_eq_some_iff.mp H; obtain ⟨t279, A150, H⟩ := H
   replace H : (if t279 = true then ((span_Has.f a1_0 a1_1 t278).bind fun t280 => ((posternref15_In.f a1_0 a1_1 t278).bind fun t281 => (if (t280 != t281) = true then (posternlaw15_SpanSound.j0 k a0 t277 t278 true a1_0 a1_1 a1_2 a1_3) else ((span_Any.f).bind fun bt282 => ((span_Has.f bt282.1 bt282.2 t277).bind fun t284 => (if t284 = true then ((span_Const.f t277).bind fun bt285 => (posternlaw15_SpanSound.j0 k a0 t277 t278 (!(bt285.1 == t277) || (!(bt285.2 == t277))) a1_0 a1_1 a1_2 a1_3)) else (posternlaw15_SpanSound.j0 k a0 t277 t278 true a1_0 a1_1 a1_2 a1_3))))))) else (posternlaw15_SpanSound.j0 k a0 t277 t278 true a1_0 a1_1 a1_2 a1_3)) = some r := H
   have A15 := Aside0.mk A150; clear A150
   by_cases c16 : t279 = true
   ·
    subst c16
    have H1 : ((span_Has.f a1_0 a1_1 t278).bind fun t280 => ((posternref15_In.f a1_0 a1_1 t278).bind fun t281 => (if (t280 != t281) = true then (posternlaw15_SpanSound.j0 k a0 t277 t278 true a1_0 a1_1 a1_2 a1_3) else ((span_Any.f).bind fun bt282 => ((span_Has.f bt282.1 bt282.2 t277).bind fun t284 => (if t284 = true then ((span_Const.f t277).bind fun bt285 => (posternlaw15_SpanSound.j0 k a0 t277 t278 (!(bt285.1 == t277) || (!(bt285.2 == t277))) a1_0 a1_1 a1_2 a1_3)) else (posternlaw15_SpanSound.j0 k a0 t277 t278 true a1_0 a1_1 a1_2 a1_3))))))) = some r := by rw [if_pos rfl] at H; exact H
    clear H; have H := H1; clear H1; replace H := Option.bind_eq_some_iff.mp H; obtain ⟨t280, A170, H⟩ := H
    replace H : ((posternref15_In.f a1_0 a1_1 t278).bind fun t281 => (if (t280 != t281) = true then (posternlaw15_SpanSound.j0 k a0 t277 t278 true a1_0 a1_1 a1_2 a1_3) else ((span_Any.f).bind fun bt282 => ((span_Has.f bt282.1 bt282.2 t277).bind fun t284 => (if t284 = true then ((span_Const.f t277).bind fun bt285 => (posternlaw15_SpanSound.j0 k a0 t277 t278 (!(bt285.1 == t277) || (!(bt285.2 == t277))) a1_0 a1_1 a1_2 a1_3)) else (posternlaw15_SpanSound.j0 k a0 t277 t278 true a1_0 a1_1 a1_2 a1_3)))))) = some r := H
    have A17 := Aside0.mk A170; clear A170; replace H := Option.bind_eq_some_iff.mp H; obtain ⟨t281, A180, H⟩ := H
    replace H : (if (t280 != t281) = true then (posternlaw15_SpanSound.j0 k a0 t277 t278 true a1_0 a1_1 a1_2 a1_3) else ((span_Any.f).bind fun bt282 => ((span_Has.f bt282.1 bt282.2 t277).bind fun t284 => (if t284 = true then ((span_Const.f t277).bind fun bt285 => (posternlaw15_SpanSound.j0 k a0 t277 t278 (!(bt285.1 == t277) || (!(bt285.2 == t277))) a1_0 a1_1 a1_2 a1_3)) else (posternlaw15_SpanSound.j0 k a0 t277 t278 true a1_0 a1_1 a1_2 a1_3))))) = some r := H
    have A18 := Aside0.mk A180; clear A180
    by_cases c19 : (t280 != t281) = true
    ·
     rw [if_pos c19] at H
     have c19b0 : (t280 != t281) = true := c19
     (try (have c19b1 : decide (t280 = t281) = false := by simpa using c19)); (try (have c19b2 : (t280 == t281) = false := by simpa using c19)); (try (have c19b3 : ¬ (t280 = t281) := by simpa using c19)); clear c19
     (first | rw [c19b0] | (simp only [i64_w, i32_w]; rw [c19b0]) | skip)
     have H' := Aside0.mk H; clear H
     try go_wp2
     have n0_ := Aside0.mk (blk_drew BK274.out); have n1_ := Aside0.mk (blk_drew BK275.out)
     have n2_ := Aside0.mk (below_drew1 HB.out)
     clear BK274; clear BK275; clear HB; have BK274 := n0_; have BK275 := n1_; have HB := n2_; clear n0_ n1_ n2_
     refine start_ (n := 30) (S := fun w' => w'.cell? ⟨gb274, 0, none⟩ = some (.int .u64 a1_0) ∧ w'.cell? ⟨gb274, 1, none⟩ = some (.int .u64 a1_1) ∧ w'.cell? ⟨gb274, 2, none⟩ = some (.int .u64 a1_2) ∧ w'.cell? ⟨gb274, 3, none⟩ = some (.int .u64 a1_3)) (ds := []) #[false, false, false, false, false, false, false, false, false, false, false, false, false, false, false, false, false, false, false, false, false, false, false, false, false, false, false, false, false, false] (by kernel_rfl) rfl rfl ⟨(blk_cell BK274.out 0).trans rfl, (blk_cell BK274.out 1).trans rfl, (blk_cell BK274.out 2).trans rfl, (blk_cell BK274.out 3).trans rfl⟩ (fun hHeld => ?_); refine with_tabW posternlaw15_SpanSound.tab4 posternlaw15_SpanSound.bits4 (fun HT_ HW_ => ?_)
     generalize w14.drew = w20 at BK274 BK275 HB hHeld ⊢
     refine pure_ (i := 0) (N := some 29) (v := ?_) (a' := ?_) #[true, false, false, false, false, false, false, false, false, false, false, false, false, false, false, false, false, false, false, false, false, false, false, false, false, false, false, false, false, false] rfl rfl (any_of HT_.out (by kernel_rfl)) (fun _ _ _ h => h) (Or.inl ⟨by rfl, ?_⟩) ?_ ?_
     rotate_left
     · intro w'; go_simp; with_reducible rfl
     rotate_left
     · simp only [Act.put, qT, q0, q1, i64_w, i32_w]; rfl
     refine pure_ (i := 2) (N := some 31) (v := ?_) (a' := ?_) #[true, false, true, false, false, false, false, false, false, false, false, false, false, false, false, false, false, false, false, false, false, false, false, false, false, false, false, false, false, false] rfl rfl (any_of HT_.out (by kernel_rfl)) (fun _ _ _ h => h) (Or.inl ⟨by rfl, ?_⟩) ?_ ?_
     rotate_left
     · intro w'; go_simp; with_reducible rfl
     rotate_left
     · simp only [Act.put, qT, q0, q1, i64_w, i32_w]; rfl
     refine take_ (i := 1) (N := some 30) (v := ?_) (a' := ?_) #[true, true, true, false, false, false, false, false, false, false, false, false, false, false, false, false, false, false, false, false, false, false, false, false, false, false, false, false, false, false] rfl rfl (take_ofW HT_.out HW_.out (by kernel_rfl)) (fun _ _ _ h => h) (Or.inl ⟨by rfl, ?_⟩) hHeld ?_ ?_
     rotate_left
     ·
      rintro w' ⟨s0, s1, s2, s3⟩
      go_simp; with_reducible rfl
     rotate_left
     · simp only [Act.put, qT, q0, q1, i64_w, i32_w]; rfl
     refine one_ (i := 3) (N := some 32) #[true, true, true, true, false, false, false, false, false, false, false, false, false, false, false, false, false, false, false, false, false, false, false, false, false, false, false, false, false, false] rfl rfl (one_of HT_.out (by kernel_rfl)) (by decide) (fun K hK => ?_)
     refine goes_ Try.func39 (by kernel_rfl) rfl #[.agg #[.int .u64 a1_0, .int .u64 a1_1], .int .u64 t277] (by rfl) rfl rfl (by (try simp only [List.map_toArray, List.map_cons, List.map_nil]); first | done | rfl | (simp only [List.length_drop, List.length_take]; rfl)) ?_
     with_reducible refine (span_Has.calls a1_0 a1_1 t277 true _ A15.out).mono ?_
     rintro e w21 ⟨rfl, hb⟩; refine ⟨_, rfl, ?_⟩
     have n0_ := Aside0.mk (blk_below (g := gb274) (o := .cells #[.int .u64 a1_0, .int .u64 a1_1, .int .u64 a1_2, .int .u64 a1_3] 63 (0, 0)) (by (with_reducible repeat (first | apply bN | apply bD | apply bA)); exact BK274.out) hb)
     have n1_ := Aside0.mk (blk_below (g := gb275) (o := .cells #[.int .u64 a2_0, .int .u64 a2_1] 26 (0, 0)) (by (with_reducible repeat (first | apply bN | apply bD | apply bA)); exact BK275.out) hb)
     have n2_ := Aside0.mk (below_step (by repeat (first | (with_reducible first | exact HB.out | apply lA | apply lN | apply lD | refine lS ?_ ‹_›) | exact HB.out)) hb)
     clear BK274; clear BK275; clear HB; have BK274 := n0_; have BK275 := n1_; have HB := n2_; clear n0_ n1_ n2_; (try clear hb); (try clear hb2); (try clear hk); (try clear hi)
     refine hK.out _ _ ⟨(blk_cell BK274.out 0).trans rfl, (blk_cell BK274.out 1).trans rfl, (blk_cell BK274.out 2).trans rfl, (blk_cell BK274.out 3).trans rfl⟩ (fun hHeld => ?_)
     clear hK K
     refine norm_ (a' := ?_) ?_ ?_
     rotate_left
     ·
      show Act.put _ (some 32) _ = _
      simp only [Act.put, qT, q0, q1, i64_w, i32_w]; rfl
     refine pure_ (i := 4) (N := some 33) (v := ?_) (a' := ?_) #[true, true, true, true, true, false, false, false, false, false, false, false, false, false, false, false, false, false, false, false, false, false, false, false, false, false, false, false, false, false] rfl rfl (any_of HT_.out (by kernel_rfl)) (fun _ _ _ h => h) (Or.inl ⟨by rfl, ?_⟩) ?_ ?_
     rotate_left
     · intro w'; go_simp; with_reducible rfl
     rotate_left
     · simp only [Act.put, qT, q0, q1, i64_w, i32_w]; rfl
     refine pure_ (i := 5) (N := some 34) (v := ?_) (a' := ?_) #[true, true, true, true, true, true, false, false, false, false, false, false, false, false, false, false, false, false, false, false, false, false, false, false, false, false, false, false, false, false] rfl rfl (any_of HT_.out (by kernel_rfl)) (fun _ _ _ h => h) (Or.inl ⟨by rfl, ?_⟩) ?_ ?_
     rotate_left
     · intro w'; go_simp; with_reducible rfl
     rotate_left
     · simp only [Act.put, qT, q0, q1, i64_w, i32_w]; rfl
     refine pure_ (i := 6) (N := some 35) (v := ?_) (a' := ?_) #[true, true, true, true, true, true, true, false, false, false, false, false, false, false, false, false, false, false, false, false, false, false, false, false, false, false, false, false, false, false] rfl rfl (any_of HT_.out (by kernel_rfl)) (fun _ _ _ h => h) (Or.inl ⟨by rfl, ?_⟩) ?_ ?_
     rotate_left
     · intro w'; go_simp; with_reducible rfl
     rotate_left
     · simp only [Act.put, qT, q0, q1, i64_w, i32_w]; rfl
     refine pure_ (i := 8) (N := some 37) (v := ?_) (a' := ?_) #[true, true, true, true, true, true, true, false, true, false, false, false, false, false, false, false, false, false, false, false, false, false, false, false, false, false, false, false, false, false] rfl rfl (any_of HT_.out (by kernel_rfl)) (fun _ _ _ h => h) (Or.inl ⟨by rfl, ?_⟩) ?_ ?_
     rotate_left
     · intro w'; go_simp; with_reducible rfl
     rotate_left
     · simp only [Act.put, qT, q0, q1, i64_w, i32_w]; rfl
     refine pure_ (i := 10) (N := some 39) (v := ?_) (a' := ?_) #[true, true, true, true, true, true, true, false, true, false, true, false, false, false, false, false, false, false, false, false, false, false, false, false, false, false, false, false, false, false] rfl rfl (any_of HT_.out (by kernel_rfl)) (fun _ _ _ h => h) (Or.inl ⟨by rfl, ?_⟩) ?_ ?_
     rotate_left
     · intro w'; go_simp; with_reducible rfl
     rotate_left
     · simp only [Act.put, qT, q0, q1, i64_w, i32_w]; rfl
     refine pure_ (i := 12) (N := some 41) (v := ?_) (a' := ?_) #[true, true, true, true, true, true, true, false, true, false, true, false, true, false, false, false, false, false, false, false, false, false, false, false, false, false, false, false, false, false] rfl rfl (any_of HT_.out (by kernel_rfl)) (fun _ _ _ h => h) (Or.inl ⟨by rfl, ?_⟩) ?_ ?_
     rotate_left
     · intro w'; go_simp; with_reducible rfl
     rotate_left
     · simp only [Act.put, qT, q0, q1, i64_w, i32_w]; rfl
     refine take_ (i := 7) (N := some 36) (v := ?_) (a' := ?_) #[true, true, true, true, true, true, true, true, true, false, true, false, true, false, false, false, false, false, false, false, false, false, false, false, false, false, false, false, false, false] rfl rfl (take_ofW HT_.out HW_.out (by kernel_rfl)) (fun _ _ _ h => h) (Or.inl ⟨by rfl, ?_⟩) hHeld ?_ ?_
     rotate_left
     ·
      rintro w' ⟨s0, s1, s2, s3⟩
      go_simp; with_reducible rfl
     rotate_left
     · simp only [Act.put, qT, q0, q1, i64_w, i32_w]; rfl
     refine take_ (i := 11) (N := some 40) (v := ?_) (a' := ?_) #[true, true, true, true, true, true, true, true, true, false, true, true, true, false, false, false, false, false, false, false, false, false, false, false, false, false, false, false, false, false] rfl rfl (take_ofW HT_.out HW_.out (by kernel_rfl)) (fun _ _ _ h => h) (Or.inl ⟨by rfl, ?_⟩) hHeld ?_ ?_
     rotate_left
     ·
      rintro w' ⟨s0, s1, s2, s3⟩
      go_simp; with_reducible rfl
     rotate_left
     · simp only [Act.put, qT, q0, q1, i64_w, i32_w]; rfl
     refine one_ (i := 9) (N := some 38) #[true, true, true, true, true, true, true, true, true, true, true, true, true, false, false, false, false, false, false, false, false, false, false, false, false, false, false, false, false, false] rfl rfl (one_of HT_.out (by kernel_rfl)) (by decide) (fun K hK => ?_)
     refine goes_ Try.func39 (by kernel_rfl) rfl #[.agg #[.int .u64 a1_0, .int .u64 a1_1], .int .u64 t278] (by rfl) rfl rfl (by (try simp only [List.map_toArray, List.map_cons, List.map_nil]); first | done | rfl | (simp only [List.length_drop, List.length_take]; rfl)) ?_
     with_reducible refine (span_Has.calls a1_0 a1_1 t278 t280 _ A17.out).mono ?_
     rintro e w22 ⟨rfl, hb⟩; refine ⟨_, rfl, ?_⟩
     have n0_ := Aside0.mk (blk_below (g := gb274) (o := .cells #[.int .u64 a1_0, .int .u64 a1_1, .int .u64 a1_2, .int .u64 a1_3] 63 (0, 0)) (by (with_reducible repeat (first | apply bN | apply bD | apply bA)); exact BK274.out) hb)
     have n1_ := Aside0.mk (blk_below (g := gb275) (o := .cells #[.int .u64 a2_0, .int .u64 a2_1] 26 (0, 0)) (by (with_reducible repeat (first | apply bN | apply bD | apply bA)); exact BK275.out) hb)
     have n2_ := Aside0.mk (below_step (by repeat (first | (with_reducible first | exact HB.out | apply lA | apply lN | apply lD | refine lS ?_ ‹_›) | exact HB.out)) hb)
     clear BK274; clear BK275; clear HB; have BK274 := n0_; have BK275 := n1_; have HB := n2_; clear n0_ n1_ n2_; (try clear hb); (try clear hb2); (try clear hk); (try clear hi)
     refine hK.out _ _ ⟨(blk_cell BK274.out 0).trans rfl, (blk_cell BK274.out 1).trans rfl, (blk_cell BK274.out 2).trans rfl, (blk_cell BK274.out 3).trans rfl⟩ (fun hHeld => ?_)
     clear hK K
     refine norm_ (a' := ?_) ?_ ?_
     rotate_left
     ·
      show Act.put _ (some 38) _ = _
      simp only [Act.put, qT, q0, q1, i64_w, i32_w]; rfl
     refine one_ (i := 13) (N := some 42) #[true, true, true, true, true, true, true, true, true, true, true, true, true, true, false, false, false, false, false, false, false, false, false, false, false, false, false, false, false, false] rfl rfl (one_of HT_.out (by kernel_rfl)) (by decide) (fun K hK => ?_)
     refine goes_ Try.func40 (by kernel_rfl) rfl #[.agg #[.int .u64 a1_0, .int .u64 a1_1], .int .u64 t278] (by rfl) rfl rfl (by (try simp only [List.map_toArray, List.map_cons, List.map_nil]); first | done | rfl | (simp only [List.length_drop, List.length_take]; rfl)) ?_
     with_reducible refine (posternref15_In.calls a1_0 a1_1 t278 t281 _ A18.out).mono ?_
     rintro e w23 ⟨rfl, hb⟩; refine ⟨_, rfl, ?_⟩
     have n0_ := Aside0.mk (blk_below (g := gb274) (o := .cells #[.int .u64 a1_0, .int .u64 a1_1, .int .u64 a1_2, .int .u64 a1_3] 63 (0, 0)) (by (with_reducible repeat (first | apply bN | apply bD | apply bA)); exact BK274.out) hb)
     have n1_ := Aside0.mk (blk_below (g := gb275) (o := .cells #[.int .u64 a2_0, .int .u64 a2_1] 26 (0, 0)) (by (with_reducible repeat (first | apply bN | apply bD | apply bA)); exact BK275.out) hb)
     have n2_ := Aside0.mk (below_step (by repeat (first | (with_reducible first | exact HB.out | apply lA | apply lN | apply lD | refine lS ?_ ‹_›) | exact HB.out)) hb)
     clear BK274; clear BK275; clear HB; have BK274 := n0_; have BK275 := n1_; have HB := n2_; clear n0_ n1_ n2_; (try clear hb); (try clear hb2); (try clear hk); (try clear hi)
     refine hK.out _ _ ⟨(blk_cell BK274.out 0).trans rfl, (blk_cell BK274.out 1).trans rfl, (blk_cell BK274.out 2).trans rfl, (blk_cell BK274.out 3).trans rfl⟩ (fun hHeld => ?_)
     clear hK K
     refine norm_ (a' := ?_) ?_ ?_
     rotate_left
     ·
      show Act.put _ (some 42) _ = _
      simp only [Act.put, qT, q0, q1, i64_w, i32_w]; rfl
     refine pure_ (i := 14) (N := some 43) (v := ?_) (a' := ?_) #[true, true, true, true, true, true, true, true, true, true, true, true, true, true, true, false, false, false, false, false, false, false, false, false, false, false, false, false, false, false] rfl rfl (any_of HT_.out (by kernel_rfl)) (fun _ _ _ h => h) (Or.inl ⟨by rfl, ?_⟩) ?_ ?_
     rotate_left
     · intro w'; go_simp; with_reducible rfl
     rotate_left
     · simp only [Act.put, qT, q0, q1, i64_w, i32_w]; rfl
     refine pure_ (i := 15) (N := some 44) (v := ?_) (a' := ?_) #[true, true, true, true, true, true, true, true, true, true, true, true, true, true, true, true, false, false, false, false, false, false, false, false, false, false, false, false, false, false] rfl rfl (any_of HT_.out (by kernel_rfl)) (fun _ _ _ h => h) (Or.inl ⟨by rfl, ?_⟩) ?_ ?_
     rotate_left
     · intro w'; go_simp; with_reducible rfl
     rotate_left
     · simp only [Act.put, qT, q0, q1, i64_w, i32_w]; rfl
     refine pure_ (i := 16) (N := some 45) (v := ?_) (a' := ?_) #[true, true, true, true, true, true, true, true, true, true, true, true, true, true, true, true, true, false, false, false, false, false, false, false, false, false, false, false, false, false] rfl rfl (any_of HT_.out (by kernel_rfl)) (fun _ _ _ h => h) (Or.inl ⟨by rfl, ?_⟩) ?_ ?_
     rotate_left
     · intro w'; go_simp; with_reducible rfl
     rotate_left
     · simp only [Act.put, qT, q0, q1, i64_w, i32_w]; rfl
     refine pure_ (i := 17) (N := some 46) (v := undef) (a' := ?_) #[true, true, true, true, true, true, true, true, true, true, true, true, true, true, true, true, true, true, false, false, false, false, false, false, false, false, false, false, false, false] rfl rfl (any_of HT_.out (by kernel_rfl)) (fun _ _ _ h => h) (Or.inr ⟨by rfl, rfl⟩) ?_ ?_
     rotate_left
     · simp only [Act.put, qT, q0, q1, i64_w, i32_w]; rfl
     refine pure_ (i := 18) (N := some 47) (v := undef) (a' := ?_) #[true, true, true, true, true, true, true, true, true, true, true, true, true, true, true, true, true, true, true, false, false, false, false, false, false, false, false, false, false, false] rfl rfl (any_of HT_.out (by kernel_rfl)) (fun _ _ _ h => h) (Or.inr ⟨by rfl, rfl⟩) ?_ ?_
     rotate_left
     · simp only [Act.put, qT, q0, q1, i64_w, i32_w]; rfl
     refine pure_ (i := 19) (N := some 48) (v := undef) (a' := ?_) #[true, true, true, true, true, true, true, true, true, true, true, true, true, true, true, true, true, true, true, true, false, false, false, false, false, false, false, false, false, false] rfl rfl (any_of HT_.out (by kernel_rfl)) (fun _ _ _ h => h) (Or.inr ⟨by rfl, rfl⟩) ?_ ?_
     rotate_left
     · simp only [Act.put, qT, q0, q1, i64_w, i32_w]; rfl
     refine pure_ (i := 20) (N := some 49) (v := undef) (a' := ?_) #[true, true, true, true, true, true, true, true, true, true, true, true, true, true, true, true, true, true, true, true, true, false, false, false, false, false, false, false, false, false] rfl rfl (any_of HT_.out (by kernel_rfl)) (fun _ _ _ h => h) (Or.inr ⟨by rfl, rfl⟩) ?_ ?_
     rotate_left
     · simp only [Act.put, qT, q0, q1, i64_w, i32_w]; rfl
     refine pure_ (i := 21) (N := some 50) (v := ?_) (a' := ?_) #[true, true, true, true, true, true, true, true, true, true, true, true, true, true, true, true, true, true, true, true, true, true, false, false, false, false, false, false, false, false] rfl rfl (any_of HT_.out (by kernel_rfl)) (fun _ _ _ h => h) (Or.inl ⟨by rfl, ?_⟩) ?_ ?_
     rotate_left
     · intro w'; go_simp; with_reducible rfl
     rotate_left
     · simp only [Act.put, qT, q0, q1, i64_w, i32_w]; rfl
     refine pure_ (i := 22) (N := some 51) (v := ?_) (a' := ?_) #[true, true, true, true, true, true, true, true, true, true, true, true, true, true, true, true, true, true, true, true, true, true, true, false, false, false, false, false, false, false] rfl rfl (any_of HT_.out (by kernel_rfl)) (fun _ _ _ h => h) (Or.inl ⟨by rfl, ?_⟩) ?_ ?_
     rotate_left
     · intro w'; go_simp; with_reducible rfl
     rotate_left
     · simp only [Act.put, qT, q0, q1, i64_w, i32_w]; rfl
     refine pure_ (i := 23) (N := some 52) (v := undef) (a' := ?_) #[true, true, true, true, true, true, true, true, true, true, true, true, true, true, true, true, true, true, true, true, true, true, true, true, false, false, false, false, false, false] rfl rfl (any_of HT_.out (by kernel_rfl)) (fun _ _ _ h => h) (Or.inr ⟨by rfl, rfl⟩) ?_ ?_
     rotate_left
     · simp only [Act.put, qT, q0, q1, i64_w, i32_w]; rfl
     refine pure_ (i := 24) (N := some 53) (v := undef) (a' := ?_) #[true, true, true, true, true, true, true, true, true, true, true, true, true, true, true, true, true, true, true, true, true, true, true, true, true, false, false, false, false, false] rfl rfl (any_of HT_.out (by kernel_rfl)) (fun _ _ _ h => h) (Or.inr ⟨by rfl, rfl⟩) ?_ ?_
     rotate_left
     · simp only [Act.put, qT, q0, q1, i64_w, i32_w]; rfl
     refine pure_ (i := 25) (N := some 54) (v := undef) (a' := ?_) #[true, true, true, true, true, true, true, true, true, true, true, true, true, true, true, true, true, true, true, true, true, true, true, true, true, true, false, false, false, false] rfl rfl (any_of HT_.out (by kernel_rfl)) (fun _ _ _ h => h) (Or.inr ⟨by rfl, rfl⟩) ?_ ?_
     rotate_left
     · simp only [Act.put, qT, q0, q1, i64_w, i32_w]; rfl
     refine pure_ (i := 26) (N := some 55) (v := undef) (a' := ?_) #[true, true, true, true, true, true, true, true, true, true, true, true, true, true, true, true, true, true, true, true, true, true, true, true, true, true, true, false, false, false] rfl rfl (any_of HT_.out (by kernel_rfl)) (fun _ _ _ h => h) (Or.inr ⟨by rfl, rfl⟩) ?_ ?_
     rotate_left
     · simp only [Act.put, qT, q0, q1, i64_w, i32_w]; rfl
     refine pure_ (i := 27) (N := some 56) (v := undef) (a' := ?_) #[true, true, true, true, true, true, true, true, true, true, true, true, true, true, true, true, true, true, true, true, true, true, true, true, true, true, true, true, false, false] rfl rfl (any_of HT_.out (by kernel_rfl)) (fun _ _ _ h => h) (Or.inr ⟨by rfl, rfl⟩) ?_ ?_
     rotate_left
     · simp only [Act.put, qT, q0, q1, i64_w, i32_w]; rfl
     refine pure_ (i := 28) (N := some 57) (v := undef) (a' := ?_) #[true, true, true, true, true, true, true, true, true, true, true, true, true, true, true, true, true, true, true, true, true, true, true, true, true, true, true, true, true, false] rfl rfl (any_of HT_.out (by kernel_rfl)) (fun _ _ _ h => h) (Or.inr ⟨by rfl, rfl⟩) ?_ ?_
     rotate_left
     · simp only [Act.put, qT, q0, q1, i64_w, i32_w]; rfl
     refine pure_ (i := 29) (N := some 58) (v := ?_) (a' := ?_) #[true, true, true, true, true, true, true, true, true, true, true, true, true, true, true, true, true, true, true, true, true, true, true, true, true, true, true, true, true, true] rfl rfl (any_of HT_.out (by kernel_rfl)) (fun _ _ _ h => h) (Or.inl ⟨by rfl, ?_⟩) ?_ ?_
     rotate_left
     · intro w'; go_simp; with_reducible rfl
     rotate_left
     · simp only [Act.put, qT, q0, q1, i64_w, i32_w]; rfl
     refine done_ (done_of HT_.out (by kernel_rfl)) ?_
     try go_wp2
     go_meet
     case rel => exact ⟨_, (true), (by first | rfl | (simp; done) | (simp [*]; done)), H', ⟨by first | omega | exact Nat.le_refl _⟩, ⟨by (with_reducible repeat (first | apply bN | apply bD | apply bA)); exact BK274.out⟩, ⟨by (with_reducible repeat (first | apply bN | apply bD | apply bA)); exact BK275.out⟩, ⟨by repeat (first | (with_reducible first | exact HB.out | apply lA | apply lN | apply lD | refine lS ?_ ‹_›) | exact HB.out)⟩⟩
    ·
     rw [if_neg c19] at H
     have c19b0 : (t280 != t281) = false := by simpa using c19
     (try (have c19b1 : decide (t280 = t281) = true := by simpa using c19)); (try (have c19b2 : (t280 == t281) = true := by simpa using c19)); clear c19
     (first | rw [c19b0] | (simp only [i64_w, i32_w]; rw [c19b0]) | skip)
     replace H := Option.bind_eq_some_iff.mp H; obtain ⟨⟨t282, t283⟩, A240, H⟩ := H
     replace H : ((span_Has.f t282 t283 t277).bind fun t284 => (if t284 = true then ((span_Const.f t277).bind fun bt285 => (posternlaw15_SpanSound.j0 k a0 t277 t278 (!(bt285.1 == t277) || (!(bt285.2 == t277))) a1_0 a1_1 a1_2 a1_3)) else (posternlaw15_SpanSound.j0 k a0 t277 t278 true a1_0 a1_1 a1_2 a1_3))) = some r := H
     have A24 := Aside0.mk A240; clear A240; replace H := Option.bind_eq_some_iff.mp H; obtain ⟨t284, A250, H⟩ := H
     replace H : (if t284 = true then ((span_Const.f t277).bind fun bt285 => (posternlaw15_SpanSound.j0 k a0 t277 t278 (!(bt285.1 == t277) || (!(bt285.2 == t277))) a1_0 a1_1 a1_2 a1_3)) else (posternlaw15_SpanSound.j0 k a0 t277 t278 true a1_0 a1_1 a1_2 a1_3)) = some r := H
     have A25 := Aside0.mk A250; clear A250
     by_cases c26 : t284 = true
     ·
      subst c26
      have H1 : ((span_Const.f t277).bind fun bt285 => (posternlaw15_SpanSound.j0 k a0 t277 t278 (!(bt285.1 == t277) || (!(bt285.2 == t277))) a1_0 a1_1 a1_2 a1_3)) = some r := by rw [if_pos rfl] at H; exact H
      clear H; have H := H1; clear H1; replace H := Option.bind_eq_some_iff.mp H; obtain ⟨⟨t285, t286⟩, A270, H⟩ := H
      replace H : (posternlaw15_SpanSound.j0 k a0 t277 t278 (!(t285 == t277) || (!(t286 == t277))) a1_0 a1_1 a1_2 a1_3) = some r := H
      have A27 := Aside0.mk A270; clear A270; have H' := Aside0.mk H; clear H
      try go_wp2
      have n0_ := Aside0.mk (blk_drew BK274.out); have n1_ := Aside0.mk (blk_drew BK275.out)
      have n2_ := Aside0.mk (below_drew1 HB.out)
      clear BK274; clear BK275; clear HB; have BK274 := n0_; have BK275 := n1_; have HB := n2_; clear n0_ n1_ n2_
      refine start_ (n := 30) (S := fun w' => w'.cell? ⟨gb274, 0, none⟩ = some (.int .u64 a1_0) ∧ w'.cell? ⟨gb274, 1, none⟩ = some (.int .u64 a1_1) ∧ w'.cell? ⟨gb274, 2, none⟩ = some (.int .u64 a1_2) ∧ w'.cell? ⟨gb274, 3, none⟩ = some (.int .u64 a1_3)) (ds := []) #[false, false, false, false, false, false, false, false, false, false, false, false, false, false, false, false, false, false, false, false, false, false, false, false, false, false, false, false, false, false] (by kernel_rfl) rfl rfl ⟨(blk_cell BK274.out 0).trans rfl, (blk_cell BK274.out 1).trans rfl, (blk_cell BK274.out 2).trans rfl, (blk_cell BK274.out 3).trans rfl⟩ (fun hHeld => ?_); refine with_tabW posternlaw15_SpanSound.tab4 posternlaw15_SpanSound.bits4 (fun HT_ HW_ => ?_)
      generalize w14.drew = w28 at BK274 BK275 HB hHeld ⊢
      refine pure_ (i := 0) (N := some 29) (v := ?_) (a' := ?_) #[true, false, false, false, false, false, false, false, false, false, false, false, false, false, false, false, false, false, false, false, false, false, false, false, false, false, false, false, false, false] rfl rfl (any_of HT_.out (by kernel_rfl)) (fun _ _ _ h => h) (Or.inl ⟨by rfl, ?_⟩) ?_ ?_
      rotate_left
      · intro w'; go_simp; with_reducible rfl
      rotate_left
      · simp only [Act.put, qT, q0, q1, i64_w, i32_w]; rfl
      refine pure_ (i := 2) (N := some 31) (v := ?_) (a' := ?_) #[true, false, true, false, false, false, false, false, false, false, false, false, false, false, false, false, false, false, false, false, false, false, false, false, false, false, false, false, false, false] rfl rfl (any_of HT_.out (by kernel_rfl)) (fun _ _ _ h => h) (Or.inl ⟨by rfl, ?_⟩) ?_ ?_
      rotate_left
      · intro w'; go_simp; with_reducible rfl
      rotate_left
      · simp only [Act.put, qT, q0, q1, i64_w, i32_w]; rfl
      refine take_ (i := 1) (N := some 30) (v := ?_) (a' := ?_) #[true, true, true, false, false, false, false, false, false, false, false, false, false, false, false, false, false, false, false, false, false, false, false, false, false, false, false, false, false, false] rfl rfl (take_ofW HT_.out HW_.out (by kernel_rfl)) (fun _ _ _ h => h) (Or.inl ⟨by rfl, ?_⟩) hHeld ?_ ?_
      rotate_left
      ·
       rintro w' ⟨s0, s1, s2, s3⟩
       go_simp; with_reducible rfl
      rotate_left
      · simp only [Act.put, qT, q0, q1, i64_w, i32_w]; rfl
      refine one_ (i := 3) (N := some 32) #[true, true, true, true, false, false, false, false, false, false, false, false, false, false, false, false, false, false, false, false, false, false, false, false, false, false, false, false, false, false] rfl rfl (one_of HT_.out (by kernel_rfl)) (by decide) (fun K hK => ?_)
      refine goes_ Try.func39 (by kernel_rfl) rfl #[.agg #[.int .u64 a1_0, .int .u64 a1_1], .int .u64 t277] (by rfl) rfl rfl (by (try simp only [List.map_toArray, List.map_cons, List.map_nil]); first | done | rfl | (simp only [List.length_drop, List.length_take]; rfl)) ?_
      with_reducible refine (span_Has.calls a1_0 a1_1 t277 true _ A15.out).mono ?_
      rintro e w29 ⟨rfl, hb⟩; refine ⟨_, rfl, ?_⟩
      have n0_ := Aside0.mk (blk_below (g := gb274) (o := .cells #[.int .u64 a1_0, .int .u64 a1_1, .int .u64 a1_2, .int .u64 a1_3] 63 (0, 0)) (by (with_reducible repeat (first | apply bN | apply bD | apply bA)); exact BK274.out) hb)
      have n1_ := Aside0.mk (blk_below (g := gb275) (o := .cells #[.int .u64 a2_0, .int .u64 a2_1] 26 (0, 0)) (by (with_reducible repeat (first | apply bN | apply bD | apply bA)); exact BK275.out) hb)
      have n2_ := Aside0.mk (below_step (by repeat (first | (with_reducible first | exact HB.out | apply lA | apply lN | apply lD | refine lS ?_ ‹_›) | exact HB.out)) hb)
      clear BK274; clear BK275; clear HB; have BK274 := n0_; have BK275 := n1_; have HB := n2_; clear n0_ n1_ n2_; (try clear hb); (try clear hb2); (try clear hk); (try clear hi)
      refine hK.out _ _ ⟨(blk_cell BK274.out 0).trans rfl, (blk_cell BK274.out 1).trans rfl, (blk_cell BK274.out 2).trans rfl, (blk_cell BK274.out 3).trans rfl⟩ (fun hHeld => ?_)
      clear hK K
      refine norm_ (a' := ?_) ?_ ?_
      rotate_left
      ·
       show Act.put _ (some 32) _ = _
       simp only [Act.put, qT, q0, q1, i64_w, i32_w]; rfl
      refine pure_ (i := 4) (N := some 33) (v := ?_) (a' := ?_) #[true, true, true, true, true, false, false, false, false, false, false, false, false, false, false, false, false, false, false, false, false, false, false, false, false, false, false, false, false, false] rfl rfl (any_of HT_.out (by kernel_rfl)) (fun _ _ _ h => h) (Or.inl ⟨by rfl, ?_⟩) ?_ ?_
      rotate_left
      · intro w'; go_simp; with_reducible rfl
      rotate_left
      · simp only [Act.put, qT, q0, q1, i64_w, i32_w]; rfl
      refine pure_ (i := 5) (N := some 34) (v := ?_) (a' := ?_) #[true, true, true, true, true, true, false, false, false, false, false, false, false, false, false, false, false, false, false, false, false, false, false, false, false, false, false, false, false, false] rfl rfl (any_of HT_.out (by kernel_rfl)) (fun _ _ _ h => h) (Or.inl ⟨by rfl, ?_⟩) ?_ ?_
      rotate_left
      · intro w'; go_simp; with_reducible rfl
      rotate_left
      · simp only [Act.put, qT, q0, q1, i64_w, i32_w]; rfl
      refine pure_ (i := 6) (N := some 35) (v := ?_) (a' := ?_) #[true, true, true, true, true, true, true, false, false, false, false, false, false, false, false, false, false, false, false, false, false, false, false, false, false, false, false, false, false, false] rfl rfl (any_of HT_.out (by kernel_rfl)) (fun _ _ _ h => h) (Or.inl ⟨by rfl, ?_⟩) ?_ ?_
      rotate_left
      · intro w'; go_simp; with_reducible rfl
      rotate_left
      · simp only [Act.put, qT, q0, q1, i64_w, i32_w]; rfl
      refine pure_ (i := 8) (N := some 37) (v := ?_) (a' := ?_) #[true, true, true, true, true, true, true, false, true, false, false, false, false, false, false, false, false, false, false, false, false, false, false, false, false, false, false, false, false, false] rfl rfl (any_of HT_.out (by kernel_rfl)) (fun _ _ _ h => h) (Or.inl ⟨by rfl, ?_⟩) ?_ ?_
      rotate_left
      · intro w'; go_simp; with_reducible rfl
      rotate_left
      · simp only [Act.put, qT, q0, q1, i64_w, i32_w]; rfl
      refine pure_ (i := 10) (N := some 39) (v := ?_) (a' := ?_) #[true, true, true, true, true, true, true, false, true, false, true, false, false, false, false, false, false, false, false, false, false, false, false, false, false, false, false, false, false, false] rfl rfl (any_of HT_.out (by kernel_rfl)) (fun _ _ _ h => h) (Or.inl ⟨by rfl, ?_⟩) ?_ ?_
      rotate_left
      · intro w'; go_simp; with_reducible rfl
      rotate_left
      · simp only [Act.put, qT, q0, q1, i64_w, i32_w]; rfl
      refine pure_ (i := 12) (N := some 41) (v := ?_) (a' := ?_) #[true, true, true, true, true, true, true, false, true, false, true, false, true, false, false, false, false, false, false, false, false, false, false, false, false, false, false, false, false, false] rfl rfl (any_of HT_.out (by kernel_rfl)) (fun _ _ _ h => h) (Or.inl ⟨by rfl, ?_⟩) ?_ ?_
      rotate_left
      · intro w'; go_simp; with_reducible rfl
      rotate_left
      · simp only [Act.put, qT, q0, q1, i64_w, i32_w]; rfl
      refine take_ (i := 7) (N := some 36) (v := ?_) (a' := ?_) #[true, true, true, true, true, true, true, true, true, false, true, false, true, false, false, false, false, false, false, false, false, false, false, false, false, false, false, false, false, false] rfl rfl (take_ofW HT_.out HW_.out (by kernel_rfl)) (fun _ _ _ h => h) (Or.inl ⟨by rfl, ?_⟩) hHeld ?_ ?_
      rotate_left
      ·
       rintro w' ⟨s0, s1, s2, s3⟩
       go_simp; with_reducible rfl
      rotate_left
      · simp only [Act.put, qT, q0, q1, i64_w, i32_w]; rfl
      refine take_ (i := 11) (N := some 40) (v := ?_) (a' := ?_) #[true, true, true, true, true, true, true, true, true, false, true, true, true, false, false, false, false, false, false, false, false, false, false, false, false, false, false, false, false, false] rfl rfl (take_ofW HT_.out HW_.out (by kernel_rfl)) (fun _ _ _ h => h) (Or.inl ⟨by rfl, ?_⟩) hHeld ?_ ?_
      rotate_left
      ·
       rintro w' ⟨s0, s1, s2, s3⟩
       go_simp; with_reducible rfl
      rotate_left
      · simp only [Act.put, qT, q0, q1, i64_w, i32_w]; rfl
      refine one_ (i := 9) (N := some 38) #[true, true, true, true, true, true, true, true, true, true, true, true, true, false, false, false, false, false, false, false, false, false, false, false, false, false, false, false, false, false] rfl rfl (one_of HT_.out (by kernel_rfl)) (by decide) (fun K hK => ?_)
      refine goes_ Try.func39 (by kernel_rfl) rfl #[.agg #[.int .u64 a1_0, .int .u64 a1_1], .int .u64 t278] (by rfl) rfl rfl (by (try simp only [List.map_toArray, List.map_cons, List.map_nil]); first | done | rfl | (simp only [List.length_drop, List.length_take]; rfl)) ?_
      with_reducible refine (span_Has.calls a1_0 a1_1 t278 t280 _ A17.out).mono ?_
      rintro e w30 ⟨rfl, hb⟩; refine ⟨_, rfl, ?_⟩
      have n0_ := Aside0.mk (blk_below (g := gb274) (o := .cells #[.int .u64 a1_0, .int .u64 a1_1, .int .u64 a1_2, .int .u64 a1_3] 63 (0, 0)) (by (with_reducible repeat (first | apply bN | apply bD | apply bA)); exact BK274.out) hb)
      have n1_ := Aside0.mk (blk_below (g := gb275) (o := .cells #[.int .u64 a2_0, .int .u64 a2_1] 26 (0, 0)) (by (with_reducible repeat (first | apply bN | apply bD | apply bA)); exact BK275.out) hb)
      have n2_ := Aside0.mk (below_step (by repeat (first | (with_reducible first | exact HB.out | apply lA | apply lN | apply lD | refine lS ?_ ‹_›) | exact HB.out)) hb)
      clear BK274; clear BK275; clear HB; have BK274 := n0_; have BK275 := n1_; have HB := n2_; clear n0_ n1_ n2_; (try clear hb); (try clear hb2); (try clear hk); (try clear hi)
      refine hK.out _ _ ⟨(blk_cell BK274.out 0).trans rfl, (blk_cell BK274.out 1).trans rfl, (blk_cell BK274.out 2).trans rfl, (blk_cell BK274.out 3).trans rfl⟩ (fun hHeld => ?_)
      clear hK K
      refine norm_ (a' := ?_) ?_ ?_
      rotate_left
      ·
       show Act.put _ (some 38) _ = _
       simp only [Act.put, qT, q0, q1, i64_w, i32_w]; rfl
      refine one_ (i := 13) (N := some 42) #[true, true, true, true, true, true, true, true, true, true, true, true, true, true, false, false, false, false, false, false, false, false, false, false, false, false, false, false, false, false] rfl rfl (one_of HT_.out (by kernel_rfl)) (by decide) (fun K hK => ?_)
      refine goes_ Try.func40 (by kernel_rfl) rfl #[.agg #[.int .u64 a1_0, .int .u64 a1_1], .int .u64 t278] (by rfl) rfl rfl (by (try simp only [List.map_toArray, List.map_cons, List.map_nil]); first | done | rfl | (simp only [List.length_drop, List.length_take]; rfl)) ?_
      with_reducible refine (posternref15_In.calls a1_0 a1_1 t278 t281 _ A18.out).mono ?_
      rintro e w31 ⟨rfl, hb⟩; refine ⟨_, rfl, ?_⟩
      have n0_ := Aside0.mk (blk_below (g := gb274) (o := .cells #[.int .u64 a1_0, .int .u64 a1_1, .int .u64 a1_2, .int .u64 a1_3] 63 (0, 0)) (by (with_reducible repeat (first | apply bN | apply bD | apply bA)); exact BK274.out) hb)
      have n1_ := Aside0.mk (blk_below (g := gb275) (o := .cells #[.int .u64 a2_0, .int .u64 a2_1] 26 (0, 0)) (by (with_reducible repeat (first | apply bN | apply bD | apply bA)); exact BK275.out) hb)
      have n2_ := Aside0.mk (below_step (by repeat (first | (with_reducible first | exact HB.out | apply lA | apply lN | apply lD | refine lS ?_ ‹_›) | exact HB.out)) hb)
      clear BK274; clear BK275; clear HB; have BK274 := n0_; have BK275 := n1_; have HB := n2_; clear n0_ n1_ n2_; (try clear hb); (try clear hb2); (try clear hk); (try clear hi)
      refine hK.out _ _ ⟨(blk_cell BK274.out 0).trans rfl, (blk_cell BK274.out 1).trans rfl, (blk_cell BK274.out 2).trans rfl, (blk_cell BK274.out 3).trans rfl⟩ (fun hHeld => ?_)
      clear hK K
      refine norm_ (a' := ?_) ?_ ?_
      rotate_left
      ·
       show Act.put _ (some 42) _ = _
       simp only [Act.put, qT, q0, q1, i64_w, i32_w]; rfl
      refine pure_ (i := 14) (N := some 43) (v := ?_) (a' := ?_) #[true, true, true, true, true, true, true, true, true, true, true, true, true, true, true, false, false, false, false, false, false, false, false, false, false, false, false, false, false, false] rfl rfl (any_of HT_.out (by kernel_rfl)) (fun _ _ _ h => h) (Or.inl ⟨by rfl, ?_⟩) ?_ ?_
      rotate_left
      · intro w'; go_simp; with_reducible rfl
      rotate_left
      · simp only [Act.put, qT, q0, q1, i64_w, i32_w]; rfl
      refine pure_ (i := 15) (N := some 44) (v := ?_) (a' := ?_) #[true, true, true, true, true, true, true, true, true, true, true, true, true, true, true, true, false, false, false, false, false, false, false, false, false, false, false, false, false, false] rfl rfl (any_of HT_.out (by kernel_rfl)) (fun _ _ _ h => h) (Or.inl ⟨by rfl, ?_⟩) ?_ ?_
      rotate_left
      · intro w'; go_simp; with_reducible rfl
      rotate_left
      · simp only [Act.put, qT, q0, q1, i64_w, i32_w]; rfl
      refine pure_ (i := 16) (N := some 45) (v := ?_) (a' := ?_) #[true, true, true, true, true, true, true, true, true, true, true, true, true, true, true, true, true, false, false, false, false, false, false, false, false, false, false, false, false, false] rfl rfl (any_of HT_.out (by kernel_rfl)) (fun _ _ _ h => h) (Or.inl ⟨by rfl, ?_⟩) ?_ ?_
      rotate_left
      · intro w'; go_simp; with_reducible rfl
      rotate_left
      · simp only [Act.put, qT, q0, q1, i64_w, i32_w]; rfl
      refine pure_ (i := 18) (N := some 47) (v := ?_) (a' := ?_) #[true, true, true, true, true, true, true, true, true, true, true, true, true, true, true, true, true, false, true, false, false, false, false, false, false, false, false, false, false, false] rfl rfl (any_of HT_.out (by kernel_rfl)) (fun _ _ _ h => h) (Or.inl ⟨by rfl, ?_⟩) ?_ ?_
      rotate_left
      · intro w'; go_simp; with_reducible rfl
      rotate_left
      · simp only [Act.put, qT, q0, q1, i64_w, i32_w]; rfl
      refine one_ (i := 17) (N := some 46) #[true, true, true, true, true, true, true, true, true, true, true, true, true, true, true, true, true, true, true, false, false, false, false, false, false, false, false, false, false, false] rfl rfl (one_of HT_.out (by kernel_rfl)) (by decide) (fun K hK => ?_)
      refine goes_ Try.func41 (by kernel_rfl) rfl #[] (by rfl) rfl rfl (by (try simp only [List.map_toArray, List.map_cons, List.map_nil]); first | done | rfl | (simp only [List.length_drop, List.length_take]; rfl)) ?_
      with_reducible refine (span_Any.calls  t282 t283 _ A24.out).mono ?_
      rintro e w32 ⟨rfl, hb⟩; refine ⟨_, rfl, ?_⟩
      have n0_ := Aside0.mk (blk_below (g := gb274) (o := .cells #[.int .u64 a1_0, .int .u64 a1_1, .int .u64 a1_2, .int .u64 a1_3] 63 (0, 0)) (by (with_reducible repeat (first | apply bN | apply bD | apply bA)); exact BK274.out) hb)
      have n1_ := Aside0.mk (blk_below (g := gb275) (o := .cells #[.int .u64 a2_0, .int .u64 a2_1] 26 (0, 0)) (by (with_reducible repeat (first | apply bN | apply bD | apply bA)); exact BK275.out) hb)
      have n2_ := Aside0.mk (below_step (by repeat (first | (with_reducible first | exact HB.out | apply lA | apply lN | apply lD | refine lS ?_ ‹_›) | exact HB.out)) hb)
      clear BK274; clear BK275; clear HB; have BK274 := n0_; have BK275 := n1_; have HB := n2_; clear n0_ n1_ n2_; (try clear hb); (try clear hb2); (try clear hk); (try clear hi)
      refine hK.out _ _ ⟨(blk_cell BK274.out 0).trans rfl, (blk_cell BK274.out 1).trans rfl, (blk_cell BK274.out 2).trans rfl, (blk_cell BK274.out 3).trans rfl⟩ (fun hHeld => ?_)
      clear hK K
      refine norm_ (a' := ?_) ?_ ?_
      rotate_left
      ·
       show Act.put _ (some 46) _ = _
       simp only [Act.put, qT, q0, q1, i64_w, i32_w]; rfl
      refine one_ (i := 19) (N := some 48) #[true, true, true, true, true, true, true, true, true, true, true, true, true, true, true, true, true, true, true, true, false, false, false, false, false, false, false, false, false, false] rfl rfl (one_of HT_.out (by kernel_rfl)) (by decide) (fun K hK => ?_)
      refine goes_ Try.func39 (by kernel_rfl) rfl #[.agg #[.int .u64 t282, .int .u64 t283], .int .u64 t277] (by rfl) rfl rfl (by (try simp only [List.map_toArray, List.map_cons, List.map_nil]); first | done | rfl | (simp only [List.length_drop, List.length_take]; rfl)) ?_
      with_reducible refine (span_Has.calls t282 t283 t277 true _ A25.out).mono ?_
      rintro e w33 ⟨rfl, hb⟩; refine ⟨_, rfl, ?_⟩
      have n0_ := Aside0.mk (blk_below (g := gb274) (o := .cells #[.int .u64 a1_0, .int .u64 a1_1, .int .u64 a1_2, .int .u64 a1_3] 63 (0, 0)) (by (with_reducible repeat (first | apply bN | apply bD | apply bA)); exact BK274.out) hb)
      have n1_ := Aside0.mk (blk_below (g := gb275) (o := .cells #[.int .u64 a2_0, .int .u64 a2_1] 26 (0, 0)) (by (with_reducible repeat (first | apply bN | apply bD | apply bA)); exact BK275.out) hb)
      have n2_ := Aside0.mk (below_step (by repeat (first | (with_reducible first | exact HB.out | apply lA | apply lN | apply lD | refine lS ?_ ‹_›) | exact HB.out)) hb)
      clear BK274; clear BK275; clear HB; have BK274 := n0_; have BK275 := n1_; have HB := n2_; clear n0_ n1_ n2_; (try clear hb); (try clear hb2); (try clear hk); (try clear hi)
      refine hK.out _ _ ⟨(blk_cell BK274.out 0).trans rfl, (blk_cell BK274.out 1).trans rfl, (blk_cell BK274.out 2).trans rfl, (blk_cell BK274.out 3).trans rfl⟩ (fun hHeld => ?_)
      clear hK K
      refine norm_ (a' := ?_) ?_ ?_
      rotate_left
      ·
       show Act.put _ (some 48) _ = _
       simp only [Act.put, qT, q0, q1, i64_w, i32_w]; rfl
      refine pure_ (i := 20) (N := some 49) (v := ?_) (a' := ?_) #[true, true, true, true, true, true, true, true, true, true, true, true, true, true, true, true, true, true, true, true, true, false, false, false, false, false, false, false, false, false] rfl rfl (any_of HT_.out (by kernel_rfl)) (fun _ _ _ h => h) (Or.inl ⟨by rfl, ?_⟩) ?_ ?_
      rotate_left
      · intro w'; go_simp; with_reducible rfl
      rotate_left
      · simp only [Act.put, qT, q0, q1, i64_w, i32_w]; rfl
      refine pure_ (i := 21) (N := some 50) (v := ?_) (a' := ?_) #[true, true, true, true, true, true, true, true, true, true, true, true, true, true, true, true, true, true, true, true, true, true, false, false, false, false, false, false, false, false] rfl rfl (any_of HT_.out (by kernel_rfl)) (fun _ _ _ h => h) (Or.inl ⟨by rfl, ?_⟩) ?_ ?_
      rotate_left
      · intro w'; go_simp; with_reducible rfl
      rotate_left
      · simp only [Act.put, qT, q0, q1, i64_w, i32_w]; rfl
      refine pure_ (i := 22) (N := some 51) (v := ?_) (a' := ?_) #[true, true, true, true, true, true, true, true, true, true, true, true, true, true, true, true, true, true, true, true, true, true, true, false, false, false, false, false, false, false] rfl rfl (any_of HT_.out (by kernel_rfl)) (fun _ _ _ h => h) (Or.inl ⟨by rfl, ?_⟩) ?_ ?_
      rotate_left
      · intro w'; go_simp; with_reducible rfl
      rotate_left
      · simp only [Act.put, qT, q0, q1, i64_w, i32_w]; rfl
      refine pure_ (i := 23) (N := some 52) (v := ?_) (a' := ?_) #[true, true, true, true, true, true, true, true, true, true, true, true, true, true, true, true, true, true, true, true, true, true, true, true, false, false, false, false, false, false] rfl rfl (any_of HT_.out (by kernel_rfl)) (fun _ _ _ h => h) (Or.inl ⟨by rfl, ?_⟩) ?_ ?_
      rotate_left
      · intro w'; go_simp; with_reducible rfl
      rotate_left
      · simp only [Act.put, qT, q0, q1, i64_w, i32_w]; rfl
      refine pure_ (i := 25) (N := some 54) (v := ?_) (a' := ?_) #[true, true, true, true, true, true, true, true, true, true, true, true, true, true, true, true, true, true, true, true, true, true, true, true, false, true, false, false, false, false] rfl rfl (any_of HT_.out (by kernel_rfl)) (fun _ _ _ h => h) (Or.inl ⟨by rfl, ?_⟩) ?_ ?_
      rotate_left
      · intro w'; go_simp; with_reducible rfl
      rotate_left
      · simp only [Act.put, qT, q0, q1, i64_w, i32_w]; rfl
      refine pure_ (i := 26) (N := some 55) (v := ?_) (a' := ?_) #[true, true, true, true, true, true, true, true, true, true, true, true, true, true, true, true, true, true, true, true, true, true, true, true, false, true, true, false, false, false] rfl rfl (any_of HT_.out (by kernel_rfl)) (fun _ _ _ h => h) (Or.inl ⟨by rfl, ?_⟩) ?_ ?_
      rotate_left
      · intro w'; go_simp; with_reducible rfl
      rotate_left
      · simp only [Act.put, qT, q0, q1, i64_w, i32_w]; rfl
      refine pure_ (i := 27) (N := some 56) (v := ?_) (a' := ?_) #[true, true, true, true, true, true, true, true, true, true, true, true, true, true, true, true, true, true, true, true, true, true, true, true, false, true, true, true, false, false] rfl rfl (any_of HT_.out (by kernel_rfl)) (fun _ _ _ h => h) (Or.inl ⟨by rfl, ?_⟩) ?_ ?_
      rotate_left
      · intro w'; go_simp; with_reducible rfl
      rotate_left
      · simp only [Act.put, qT, q0, q1, i64_w, i32_w]; rfl
      refine one_ (i := 24) (N := some 53) #[true, true, true, true, true, true, true, true, true, true, true, true, true, true, true, true, true, true, true, true, true, true, true, true, true, true, true, true, false, false] rfl rfl (one_of HT_.out (by kernel_rfl)) (by decide) (fun K hK => ?_)
      refine goes_ Try.func37 (by kernel_rfl) rfl #[.int .u64 t277] (by rfl) rfl rfl (by (try simp only [List.map_toArray, List.map_cons, List.map_nil]); first | done | rfl | (simp only [List.length_drop, List.length_take]; rfl)) ?_
      with_reducible refine (span_Const.calls t277 t285 t286 _ A27.out).mono ?_
      rintro e w34 ⟨rfl, hb⟩; refine ⟨_, rfl, ?_⟩
      have n0_ := Aside0.mk (blk_below (g := gb274) (o := .cells #[.int .u64 a1_0, .int .u64 a1_1, .int .u64 a1_2, .int .u64 a1_3] 63 (0, 0)) (by (with_reducible repeat (first | apply bN | apply bD | apply bA)); exact BK274.out) hb)
      have n1_ := Aside0.mk (blk_below (g := gb275) (o := .cells #[.int .u64 a2_0, .int .u64 a2_1] 26 (0, 0)) (by (with_reducible repeat (first | apply bN | apply bD | apply bA)); exact BK275.out) hb)
      have n2_ := Aside0.mk (below_step (by repeat (first | (with_reducible first | exact HB.out | apply lA | apply lN | apply lD | refine lS ?_ ‹_›) | exact HB.out)) hb)
      clear BK274; clear BK275; clear HB; have BK274 := n0_; have BK275 := n1_; have HB := n2_; clear n0_ n1_ n2_; (try clear hb); (try clear hb2); (try clear hk); (try clear hi)
      refine hK.out _ _ ⟨(blk_cell BK274.out 0).trans rfl, (blk_cell BK274.out 1).trans rfl, (blk_cell BK274.out 2).trans rfl, (blk_cell BK274.out 3).trans rfl⟩ (fun hHeld => ?_)
      clear hK K
      refine norm_ (a' := ?_) ?_ ?_
      rotate_left
      ·
       show Act.put _ (some 53) _ = _
       simp only [Act.put, qT, q0, q1, i64_w, i32_w]; rfl
      refine pure_ (i := 28) (N := some 57) (v := ?_) (a' := ?_) #[true, true, true, true, true, true, true, true, true, true, true, true, true, true, true, true, true, true, true, true, true, true, true, true, true, true, true, true, true, false] rfl rfl (any_of HT_.out (by kernel_rfl)) (fun _ _ _ h => h) (Or.inl ⟨by rfl, ?_⟩) ?_ ?_
      rotate_left
      · intro w'; go_simp; with_reducible rfl
      rotate_left
      · simp only [Act.put, qT, q0, q1, i64_w, i32_w]; rfl
      refine pure_ (i := 29) (N := some 58) (v := ?_) (a' := ?_) #[true, true, true, true, true, true, true, true, true, true, true, true, true, true, true, true, true, true, true, true, true, true, true, true, true, true, true, true, true, true] rfl rfl (any_of HT_.out (by kernel_rfl)) (fun _ _ _ h => h) (Or.inl ⟨by rfl, ?_⟩) ?_ ?_
      rotate_left
      · intro w'; go_simp; with_reducible rfl
      rotate_left
      · simp only [Act.put, qT, q0, q1, i64_w, i32_w]; rfl
      refine done_ (done_of HT_.out (by kernel_rfl)) ?_
      try go_wp2
      go_meet
      case rel => exact ⟨_, ((!(t285 == t277) || (!(t286 == t277)))), (by first | rfl | (simp; done) | (simp [*]; done)), H', ⟨by first | omega | exact Nat.le_refl _⟩, ⟨by (with_reducible repeat (first | apply bN | apply bD | apply bA)); exact BK274.out⟩, ⟨by (with_reducible repeat (first | apply bN | apply bD | apply bA)); exact BK275.out⟩, ⟨by repeat (first | (with_reducible first | exact HB.out | apply lA | apply lN | apply lD | refine lS ?_ ‹_›) | exact HB.out)⟩⟩
     ·
      replace c26 := Bool.eq_false_iff.mpr c26
      subst c26
      have H1 : (posternlaw15_SpanSound.j0 k a0 t277 t278 true a1_0 a1_1 a1_2 a1_3) = some r := by rw [if_neg (show ¬ (false = true) by decide)] at H; exact H
      clear H; have H := H1; clear H1; have H' := Aside0.mk H; clear H
      try go_wp2
      have n0_ := Aside0.mk (blk_drew BK274.out); have n1_ := Aside0.mk (blk_drew BK275.out)
      have n2_ := Aside0.mk (below_drew1 HB.out)
      clear BK274; clear BK275; clear HB; have BK274 := n0_; have BK275 := n1_; have HB := n2_; clear n0_ n1_ n2_
      refine start_ (n := 30) (S := fun w' => w'.cell? ⟨gb274, 0, none⟩ = some (.int .u64 a1_0) ∧ w'.cell? ⟨gb274, 1, none⟩ = some (.int .u64 a1_1) ∧ w'.cell? ⟨gb274, 2, none⟩ = some (.int .u64 a1_2) ∧ w'.cell? ⟨gb274, 3, none⟩ = some (.int .u64 a1_3)) (ds := []) #[false, false, false, false, false, false, false, false, false, false, false, false, false, false, false, false, false, false, false, false, false, false, false, false, false, false, false, false, false, false] (by kernel_rfl) rfl rfl ⟨(blk_cell BK274.out 0).trans rfl, (blk_cell BK274.out 1).trans rfl, (blk_cell BK274.out 2).trans rfl, (blk_cell BK274.out 3).trans rfl⟩ (fun hHeld => ?_); refine with_tabW posternlaw15_SpanSound.tab4 posternlaw15_SpanSound.bits4 (fun HT_ HW_ => ?_)
      generalize w14.drew = w35 at BK274 BK275 HB hHeld ⊢
      refine pure_ (i := 0) (N := some 29) (v := ?_) (a' := ?_) #[true, false, false, false, false, false, false, false, false, false, false, false, false, false, false, false, false, false, false, false, false, false, false, false, false, false, false, false, false, false] rfl rfl (any_of HT_.out (by kernel_rfl)) (fun _ _ _ h => h) (Or.inl ⟨by rfl, ?_⟩) ?_ ?_
      rotate_left
      · intro w'; go_simp; with_reducible rfl
      rotate_left
      · simp only [Act.put, qT, q0, q1, i64_w, i32_w]; rfl
      refine pure_ (i := 2) (N := some 31) (v := ?_) (a' := ?_) #[true, false, true, false, false, false, false, false, false, false, false, false, false, false, false, false, false, false, false, false, false, false, false, false, false, false, false, false, false, false] rfl rfl (any_of HT_.out (by kernel_rfl)) (fun _ _ _ h => h) (Or.inl ⟨by rfl, ?_⟩) ?_ ?_
      rotate_left
      · intro w'; go_simp; with_reducible rfl
      rotate_left
      · simp only [Act.put, qT, q0, q1, i64_w, i32_w]; rfl
      refine take_ (i := 1) (N := some 30) (v := ?_) (a' := ?_) #[true, true, true, false, false, false, false, false, false, false, false, false, false, false, false, false, false, false, false, false, false, false, false, false, false, false, false, false, false, false] rfl rfl (take_ofW HT_.out HW_.out (by kernel_rfl)) (fun _ _ _ h => h) (Or.inl ⟨by rfl, ?_⟩) hHeld ?_ ?_
      rotate_left
      ·
       rintro w' ⟨s0, s1, s2, s3⟩
       go_simp; with_reducible rfl
      rotate_left
      · simp only [Act.put, qT, q0, q1, i64_w, i32_w]; rfl
      refine one_ (i := 3) (N := some 32) #[true, true, true, true, false, false, false, false, false, false, false, false, false, false, false, false, false, false, false, false, false, false, false, false, false, false, false, false, false, false] rfl rfl (one_of HT_.out (by kernel_rfl)) (by decide) (fun K hK => ?_)
      refine goes_ Try.func39 (by kernel_rfl) rfl #[.agg #[.int .u64 a1_0, .int .u64 a1_1], .int .u64 t277] (by rfl) rfl rfl (by (try simp only [List.map_toArray, List.map_cons, List.map_nil]); first | done | rfl | (simp only [List.length_drop, List.length_take]; rfl)) ?_
      with_reducible refine (span_Has.calls a1_0 a1_1 t277 true _ A15.out).mono ?_
      rintro e w36 ⟨rfl, hb⟩; refine ⟨_, rfl, ?_⟩
      have n0_ := Aside0.mk (blk_below (g := gb274) (o := .cells #[.int .u64 a1_0, .int .u64 a1_1, .int .u64 a1_2, .int .u64 a1_3] 63 (0, 0)) (by (with_reducible repeat (first | apply bN | apply bD | apply bA)); exact BK274.out) hb)
      have n1_ := Aside0.mk (blk_below (g := gb275) (o := .cells #[.int .u64 a2_0, .int .u64 a2_1] 26 (0, 0)) (by (with_reducible repeat (first | apply bN | apply bD | apply bA)); exact BK275.out) hb)
      have n2_ := Aside0.mk (below_step (by repeat (first | (with_reducible first | exact HB.out | apply lA | apply lN | apply lD | refine lS ?_ ‹_›) | exact HB.out)) hb)
      clear BK274; clear BK275; clear HB; have BK274 := n0_; have BK275 := n1_; have HB := n2_; clear n0_ n1_ n2_; (try clear hb); (try clear hb2); (try clear hk); (try clear hi)
      refine hK.out _ _ ⟨(blk_cell BK274.out 0).trans rfl, (blk_cell BK274.out 1).trans rfl, (blk_cell BK274.out 2).trans rfl, (blk_cell BK274.out 3).trans rfl⟩ (fun hHeld => ?_)
      clear hK K
      refine norm_ (a' := ?_) ?_ ?_
      rotate_left
      ·
       show Act.put _ (some 32) _ = _
       simp only [Act.put, qT, q0, q1, i64_w, i32_w]; rfl
      refine pure_ (i := 4) (N := some 33) (v := ?_) (a' := ?_) #[true, true, true, true, true, false, false, false, false, false, false, false, false, false, false, false, false, false, false, false, false, false, false, false, false, false, false, false, false, false] rfl rfl (any_of HT_.out (by kernel_rfl)) (fun _ _ _ h => h) (Or.inl ⟨by rfl, ?_⟩) ?_ ?_
      rotate_left
      · intro w'; go_simp; with_reducible rfl
      rotate_left
      · simp only [Act.put, qT, q0, q1, i64_w, i32_w]; rfl
      refine pure_ (i := 5) (N := some 34) (v := ?_) (a' := ?_) #[true, true, true, true, true, true, false, false, false, false, false, false, false, false, false, false, false, false, false, false, false, false, false, false, false, false, false, false, false, false] rfl rfl (any_of HT_.out (by kernel_rfl)) (fun _ _ _ h => h) (Or.inl ⟨by rfl, ?_⟩) ?_ ?_
      rotate_left
      · intro w'; go_simp; with_reducible rfl
      rotate_left
      · simp only [Act.put, qT, q0, q1, i64_w, i32_w]; rfl
      refine pure_ (i := 6) (N := some 35) (v := ?_) (a' := ?_) #[true, true, true, true, true, true, true, false, false, false, false, false, false, false, false, false, false, false, false, false, false, false, false, false, false, false, false, false, false, false] rfl rfl (any_of HT_.out (by kernel_rfl)) (fun _ _ _ h => h) (Or.inl ⟨by rfl, ?_⟩) ?_ ?_
      rotate_left
      · intro w'; go_simp; with_reducible rfl
      rotate_left
      · simp only [Act.put, qT, q0, q1, i64_w, i32_w]; rfl
      refine pure_ (i := 8) (N := some 37) (v := ?_) (a' := ?_) #[true, true, true, true, true, true, true, false, true, false, false, false, false, false, false, false, false, false, false, false, false, false, false, false, false, false, false, false, false, false] rfl rfl (any_of HT_.out (by kernel_rfl)) (fun _ _ _ h => h) (Or.inl ⟨by rfl, ?_⟩) ?_ ?_
      rotate_left
      · intro w'; go_simp; with_reducible rfl
      rotate_left
      · simp only [Act.put, qT, q0, q1, i64_w, i32_w]; rfl
      refine pure_ (i := 10) (N := some 39) (v := ?_) (a' := ?_) #[true, true, true, true, true, true, true, false, true, false, true, false, false, false, false, false, false, false, false, false, false, false, false, false, false, false, false, false, false, false] rfl rfl (any_of HT_.out (by kernel_rfl)) (fun _ _ _ h => h) (Or.inl ⟨by rfl, ?_⟩) ?_ ?_
      rotate_left
      · intro w'; go_simp; with_reducible rfl
      rotate_left
      · simp only [Act.put, qT, q0, q1, i64_w, i32_w]; rfl
      refine pure_ (i := 12) (N := some 41) (v := ?_) (a' := ?_) #[true, true, true, true, true, true, true, false, true, false, true, false, true, false, false, false, false, false, false, false, false, false, false, false, false, false, false, false, false, false] rfl rfl (any_of HT_.out (by kernel_rfl)) (fun _ _ _ h => h) (Or.inl ⟨by rfl, ?_⟩) ?_ ?_
      rotate_left
      · intro w'; go_simp; with_reducible rfl
      rotate_left
      · simp only [Act.put, qT, q0, q1, i64_w, i32_w]; rfl
      refine take_ (i := 7) (N := some 36) (v := ?_) (a' := ?_) #[true, true, true, true, true, true, true, true, true, false, true, false, true, false, false, false, false, false, false, false, false, false, false, false, false, false, false, false, false, false] rfl rfl (take_ofW HT_.out HW_.out (by kernel_rfl)) (fun _ _ _ h => h) (Or.inl ⟨by rfl, ?_⟩) hHeld ?_ ?_
      rotate_left
      ·
       rintro w' ⟨s0, s1, s2, s3⟩
       go_simp; with_reducible rfl
      rotate_left
      · simp only [Act.put, qT, q0, q1, i64_w, i32_w]; rfl
      refine take_ (i := 11) (N := some 40) (v := ?_) (a' := ?_) #[true, true, true, true, true, true, true, true, true, false, true, true, true, false, false, false, false, false, false, false, false, false, false, false, false, false, false, false, false, false] rfl rfl (take_ofW HT_.out HW_.out (by kernel_rfl)) (fun _ _ _ h => h) (Or.inl ⟨by rfl, ?_⟩) hHeld ?_ ?_
      rotate_left
      ·
       rintro w' ⟨s0, s1, s2, s3⟩
       go_simp; with_reducible rfl
      rotate_left
      · simp only [Act.put, qT, q0, q1, i64_w, i32_w]; rfl
      refine one_ (i := 9) (N := some 38) #[true, true, true, true, true, true, true, true, true, true, true, true, true, false, false, false, false, false, false, false, false, false, false, false, false, false, false, false, false, false] rfl rfl (one_of HT_.out (by kernel_rfl)) (by decide) (fun K hK => ?_)
      refine goes_ Try.func39 (by kernel_rfl) rfl #[.agg #[.int .u64 a1_0, .int .u64 a1_1], .int .u64 t278] (by rfl) rfl rfl (by (try simp only [List.map_toArray, List.map_cons, List.map_nil]); first | done | rfl | (simp only [List.length_drop, List.length_take]; rfl)) ?_
      with_reducible refine (span_Has.calls a1_0 a1_1 t278 t280 _ A17.out).mono ?_
      rintro e w37 ⟨rfl, hb⟩; refine ⟨_, rfl, ?_⟩
      have n0_ := Aside0.mk (blk_below (g := gb274) (o := .cells #[.int .u64 a1_0, .int .u64 a1_1, .int .u64 a1_2, .int .u64 a1_3] 63 (0, 0)) (by (with_reducible repeat (first | apply bN | apply bD | apply bA)); exact BK274.out) hb)
      have n1_ := Aside0.mk (blk_below (g := gb275) (o := .cells #[.int .u64 a2_0, .int .u64 a2_1] 26 (0, 0)) (by (with_reducible repeat (first | apply bN | apply bD | apply bA)); exact BK275.out) hb)
      have n2_ := Aside0.mk (below_step (by repeat (first | (with_reducible first | exact HB.out | apply lA | apply lN | apply lD | refine lS ?_ ‹_›) | exact HB.out)) hb)
      clear BK274; clear BK275; clear HB; have BK274 := n0_; have BK275 := n1_; have HB := n2_; clear n0_ n1_ n2_; (try clear hb); (try clear hb2); (try clear hk); (try clear hi)
      refine hK.out _ _ ⟨(blk_cell BK274.out 0).trans rfl, (blk_cell BK274.out 1).trans rfl, (blk_cell BK274.out 2).trans rfl, (blk_cell BK274.out 3).trans rfl⟩ (fun hHeld => ?_)
      clear hK K
      refine norm_ (a' := ?_) ?_ ?_
      rotate_left
      ·
       show Act.put _ (some 38) _ = _
       simp only [Act.put, qT, q0, q1, i64_w, i32_w]; rfl
      refine one_ (i := 13) (N := some 42) #[true, true, true, true, true, true, true, true, true, true, true, true, true, true, false, false, false, false, false, false, false, false, false, false, false, false, false, false, false, false] rfl rfl (one_of HT_.out (by kernel_rfl)) (by decide) (fun K hK => ?_)
      refine goes_ Try.func40 (by kernel_rfl) rfl #[.agg #[.int .u64 a1_0, .int .u64 a1_1], .int .u64 t278] (by rfl) rfl rfl (by (try simp only [List.map_toArray, List.map_cons, List.map_nil]); first | done | rfl | (simp only [List.length_drop, List.length_take]; rfl)) ?_
      with_reducible refine (posternref15_In.calls a1_0 a1_1 t278 t281 _ A18.out).mono ?_
      rintro e w38 ⟨rfl, hb⟩; refine ⟨_, rfl, ?_⟩
      have n0_ := Aside0.mk (blk_below (g := gb274) (o := .cells #[.int .u64 a1_0, .int .u64 a1_1, .int .u64 a1_2, .int .u64 a1_3] 63 (0, 0)) (by (with_reducible repeat (first | apply bN | apply bD | apply bA)); exact BK274.out) hb)
      have n1_ := Aside0.mk (blk_below (g := gb275) (o := .cells #[.int .u64 a2_0, .int .u64 a2_1] 26 (0, 0)) (by (with_reducible repeat (first | apply bN | apply bD | apply bA)); exact BK275.out) hb)
      have n2_ := Aside0.mk (below_step (by repeat (first | (with_reducible first | exact HB.out | apply lA | apply lN | apply lD | refine lS ?_ ‹_›) | exact HB.out)) hb)
      clear BK274; clear BK275; clear HB; have BK274 := n0_; have BK275 := n1_; have HB := n2_; clear n0_ n1_ n2_; (try clear hb); (try clear hb2); (try clear hk); (try clear hi)
      refine hK.out _ _ ⟨(blk_cell BK274.out 0).trans rfl, (blk_cell BK274.out 1).trans rfl, (blk_cell BK274.out 2).trans rfl, (blk_cell BK274.out 3).trans rfl⟩ (fun hHeld => ?_)
      clear hK K
      refine norm_ (a' := ?_) ?_ ?_
      rotate_left
      ·
       show Act.put _ (some 42) _ = _
       simp only [Act.put, qT, q0, q1, i64_w, i32_w]; rfl
      refine pure_ (i := 14) (N := some 43) (v := ?_) (a' := ?_) #[true, true, true, true, true, true, true, true, true, true, true, true, true, true, true, false, false, false, false, false, false, false, false, false, false, false, false, false, false, false] rfl rfl (any_of HT_.out (by kernel_rfl)) (fun _ _ _ h => h) (Or.inl ⟨by rfl, ?_⟩) ?_ ?_
      rotate_left
      · intro w'; go_simp; with_reducible rfl
      rotate_left
      · simp only [Act.put, qT, q0, q1, i64_w, i32_w]; rfl
      refine pure_ (i := 15) (N := some 44) (v := ?_) (a' := ?_) #[true, true, true, true, true, true, true, true, true, true, true, true, true, true, true, true, false, false, false, false, false, false, false, false, false, false, false, false, false, false] rfl rfl (any_of HT_.out (by kernel_rfl)) (fun _ _ _ h => h) (Or.inl ⟨by rfl, ?_⟩) ?_ ?_
      rotate_left
      · intro w'; go_simp; with_reducible rfl
      rotate_left
      · simp only [Act.put, qT, q0, q1, i64_w, i32_w]; rfl
      refine pure_ (i := 16) (N := some 45) (v := ?_) (a' := ?_) #[true, true, true, true, true, true, true, true, true, true, true, true, true, true, true, true, true, false, false, false, false, false, false, false, false, false, false, false, false, false] rfl rfl (any_of HT_.out (by kernel_rfl)) (fun _ _ _ h => h) (Or.inl ⟨by rfl, ?_⟩) ?_ ?_
      rotate_left
      · intro w'; go_simp; with_reducible rfl
      rotate_left
      · simp only [Act.put, qT, q0, q1, i64_w, i32_w]; rfl
      refine pure_ (i := 18) (N := some 47) (v := ?_) (a' := ?_) #[true, true, true, true, true, true, true, true, true, true, true, true, true, true, true, true, true, false, true, false, false, false, false, false, false, false, false, false, false, false] rfl rfl (any_of HT_.out (by kernel_rfl)) (fun _ _ _ h => h) (Or.inl ⟨by rfl, ?_⟩) ?_ ?_
      rotate_left
      · intro w'; go_simp; with_reducible rfl
      rotate_left
      · simp only [Act.put, qT, q0, q1, i64_w, i32_w]; rfl
      refine one_ (i := 17) (N := some 46) #[true, true, true, true, true, true, true, true, true, true, true, true, true, true, true, true, true, true, true, false, false, false, false, false, false, false, false, false, false, false] rfl rfl (one_of HT_.out (by kernel_rfl)) (by decide) (fun K hK => ?_)
      refine goes_ Try.func41 (by kernel_rfl) rfl #[] (by rfl) rfl rfl (by (try simp only [List.map_toArray, List.map_cons, List.map_nil]); first | done | rfl | (simp only [List.length_drop, List.length_take]; rfl)) ?_
      with_reducible refine (span_Any.calls  t282 t283 _ A24.out).mono ?_
      rintro e w39 ⟨rfl, hb⟩; refine ⟨_, rfl, ?_⟩
      have n0_ := Aside0.mk (blk_below (g := gb274) (o := .cells #[.int .u64 a1_0, .int .u64 a1_1, .int .u64 a1_2, .int .u64 a1_3] 63 (0, 0)) (by (with_reducible repeat (first | apply bN | apply bD | apply bA)); exact BK274.out) hb)
      have n1_ := Aside0.mk (blk_below (g := gb275) (o := .cells #[.int .u64 a2_0, .int .u64 a2_1] 26 (0, 0)) (by (with_reducible repeat (first | apply bN | apply bD | apply bA)); exact BK275.out) hb)
      have n2_ := Aside0.mk (below_step (by repeat (first | (with_reducible first | exact HB.out | apply lA | apply lN | apply lD | refine lS ?_ ‹_›) | exact HB.out)) hb)
      clear BK274; clear BK275; clear HB; have BK274 := n0_; have BK275 := n1_; have HB := n2_; clear n0_ n1_ n2_; (try clear hb); (try clear hb2); (try clear hk); (try clear hi)
      refine hK.out _ _ ⟨(blk_cell BK274.out 0).trans rfl, (blk_cell BK274.out 1).trans rfl, (blk_cell BK274.out 2).trans rfl, (blk_cell BK274.out 3).trans rfl⟩ (fun hHeld => ?_)
      clear hK K
      refine norm_ (a' := ?_) ?_ ?_
      rotate_left
      ·
       show Act.put _ (some 46) _ = _
       simp only [Act.put, qT, q0, q1, i64_w, i32_w]; rfl
      refine one_ (i := 19) (N := some 48) #[true, true, true, true, true, true, true, true, true, true, true, true, true, true, true, true, true, true, true, true, false, false, false, false, false, false, false, false, false, false] rfl rfl (one_of HT_.out (by kernel_rfl)) (by decide) (fun K hK => ?_)
      refine goes_ Try.func39 (by kernel_rfl) rfl #[.agg #[.int .u64 t282, .int .u64 t283], .int .u64 t277] (by rfl) rfl rfl (by (try simp only [List.map_toArray, List.map_cons, List.map_nil]); first | done | rfl | (simp only [List.length_drop, List.length_take]; rfl)) ?_
      with_reducible refine (span_Has.calls t282 t283 t277 false _ A25.out).mono ?_
      rintro e w40 ⟨rfl, hb⟩; refine ⟨_, rfl, ?_⟩
      have n0_ := Aside0.mk (blk_below (g := gb274) (o := .cells #[.int .u64 a1_0, .int .u64 a1_1, .int .u64 a1_2, .int .u64 a1_3] 63 (0, 0)) (by (with_reducible repeat (first | apply bN | apply bD | apply bA)); exact BK274.out) hb)
      have n1_ := Aside0.mk (blk_below (g := gb275) (o := .cells #[.int .u64 a2_0, .int .u64 a2_1] 26 (0, 0)) (by (with_reducible repeat (first | apply bN | apply bD | apply bA)); exact BK275.out) hb)
      have n2_ := Aside0.mk (below_step (by repeat (first | (with_reducible first | exact HB.out | apply lA | apply lN | apply lD | refine lS ?_ ‹_›) | exact HB.out)) hb)
      clear BK274; clear BK275; clear HB; have BK274 := n0_; have BK275 := n1_; have HB := n2_; clear n0_ n1_ n2_; (try clear hb); (try clear hb2); (try clear hk); (try clear hi)
      refine hK.out _ _ ⟨(blk_cell BK274.out 0).trans rfl, (blk_cell BK274.out 1).trans rfl, (blk_cell BK274.out 2).trans rfl, (blk_cell BK274.out 3).trans rfl⟩ (fun hHeld => ?_)
      clear hK K
      refine norm_ (a' := ?_) ?_ ?_
      rotate_left
      ·
       show Act.put _ (some 48) _ = _
       simp only [Act.put, qT, q0, q1, i64_w, i32_w]; rfl
      refine pure_ (i := 20) (N := some 49) (v := ?_) (a' := ?_) #[true, true, true, true, true, true, true, true, true, true, true, true, true, true, true, true, true, true, true, true, true, false, false, false, false, false, false, false, false, false] rfl rfl (any_of HT_.out (by kernel_rfl)) (fun _ _ _ h => h) (Or.inl ⟨by rfl, ?_⟩) ?_ ?_
      rotate_left
      · intro w'; go_simp; with_reducible rfl
      rotate_left
      · simp only [Act.put, qT, q0, q1, i64_w, i32_w]; rfl
      refine pure_ (i := 21) (N := some 50) (v := ?_) (a' := ?_) #[true, true, true, true, true, true, true, true, true, true, true, true, true, true, true, true, true, true, true, true, true, true, false, false, false, false, false, false, false, false] rfl rfl (any_of HT_.out (by kernel_rfl)) (fun _ _ _ h => h) (Or.inl ⟨by rfl, ?_⟩) ?_ ?_
      rotate_left
      · intro w'; go_simp; with_reducible rfl
      rotate_left
      · simp only [Act.put, qT, q0, q1, i64_w, i32_w]; rfl
      refine pure_ (i := 22) (N := some 51) (v := ?_) (a' := ?_) #[true, true, true, true, true, true, true, true, true, true, true, true, true, true, true, true, true, true, true, true, true, true, true, false, false, false, false, false, false, false] rfl rfl (any_of HT_.out (by kernel_rfl)) (fun _ _ _ h => h) (Or.inl ⟨by rfl, ?_⟩) ?_ ?_
      rotate_left
      · intro w'; go_simp; with_reducible rfl
      rotate_left
      · simp only [Act.put, qT, q0, q1, i64_w, i32_w]; rfl
      refine pure_ (i := 23) (N := some 52) (v := undef) (a' := ?_) #[true, true, true, true, true, true, true, true, true, true, true, true, true, true, true, true, true, true, true, true, true, true, true, true, false, false, false, false, false, false] rfl rfl (any_of HT_.out (by kernel_rfl)) (fun _ _ _ h => h) (Or.inr ⟨by rfl, rfl⟩) ?_ ?_
      rotate_left
      · simp only [Act.put, qT, q0, q1, i64_w, i32_w]; rfl
      refine pure_ (i := 24) (N := some 53) (v := undef) (a' := ?_) #[true, true, true, true, true, true, true, true, true, true, true, true, true, true, true, true, true, true, true, true, true, true, true, true, true, false, false, false, false, false] rfl rfl (any_of HT_.out (by kernel_rfl)) (fun _ _ _ h => h) (Or.inr ⟨by rfl, rfl⟩) ?_ ?_
      rotate_left
      · simp only [Act.put, qT, q0, q1, i64_w, i32_w]; rfl
      refine pure_ (i := 25) (N := some 54) (v := undef) (a' := ?_) #[true, true, true, true, true, true, true, true, true, true, true, true, true, true, true, true, true, true, true, true, true, true, true, true, true, true, false, false, false, false] rfl rfl (any_of HT_.out (by kernel_rfl)) (fun _ _ _ h => h) (Or.inr ⟨by rfl, rfl⟩) ?_ ?_
      rotate_left
      · simp only [Act.put, qT, q0, q1, i64_w, i32_w]; rfl
      refine pure_ (i := 26) (N := some 55) (v := undef) (a' := ?_) #[true, true, true, true, true, true, true, true, true, true, true, true, true, true, true, true, true, true, true, true, true, true, true, true, true, true, true, false, false, false] rfl rfl (any_of HT_.out (by kernel_rfl)) (fun _ _ _ h => h) (Or.inr ⟨by rfl, rfl⟩) ?_ ?_
      rotate_left
      · simp only [Act.put, qT, q0, q1, i64_w, i32_w]; rfl
      refine pure_ (i := 27) (N := some 56) (v := undef) (a' := ?_) #[true, true, true, true, true, true, true, true, true, true, true, true, true, true, true, true, true, true, true, true, true, true, true, true, true, true, true, true, false, false] rfl rfl (any_of HT_.out (by kernel_rfl)) (fun _ _ _ h => h) (Or.inr ⟨by rfl, rfl⟩) ?_ ?_
      rotate_left
      · simp only [Act.put, qT, q0, q1, i64_w, i32_w]; rfl
      refine pure_ (i := 28) (N := some 57) (v := undef) (a' := ?_) #[true, true, true, true, true, true, true, true, true, true, true, true, true, true, true, true, true, true, true, true, true, true, true, true, true, true, true, true, true, false] rfl rfl (any_of HT_.out (by kernel_rfl)) (fun _ _ _ h => h) (Or.inr ⟨by rfl, rfl⟩) ?_ ?_
      rotate_left
      · simp only [Act.put, qT, q0, q1, i64_w, i32_w]; rfl
      refine pure_ (i := 29) (N := some 58) (v := ?_) (a' := ?_) #[true, true, true, true, true, true, true, true, true, true, true, true, true, true, true, true, true, true, true, true, true, true, true, true, true, true, true, true, true, true] rfl rfl (any_of HT_.out (by kernel_rfl)) (fun _ _ _ h => h) (Or.inl ⟨by rfl, ?_⟩) ?_ ?_
      rotate_left
      · intro w'; go_simp; with_reducible rfl
      rotate_left
      · simp only [Act.put, qT, q0, q1, i64_w, i32_w]; rfl
      refine done_ (done_of HT_.out (by kernel_rfl)) ?_
      try go_wp2
      go_meet
      case rel => exact ⟨_, (true), (by first | rfl | (simp; done) | (simp [*]; done)), H', ⟨by first | omega | exact Nat.le_refl _⟩, ⟨by (with_reducible repeat (first | apply bN | apply bD | apply bA)); exact BK274.out⟩, ⟨by (with_reducible repeat (first | apply bN | apply bD | apply bA)); exact BK275.out⟩, ⟨by repeat (first | (with_reducible first | exact HB.out | apply lA | apply lN | apply lD | refine lS ?_ ‹_›) | exact HB.out)⟩⟩
   ·
    replace c16 := Bool.eq_false_iff.mpr c16
    subst c16
    have H1 : (posternlaw15_SpanSound.j0 k a0 t277 t278 true a1_0 a1_1 a1_2 a1_3) = some r := by rw [if_neg (show ¬ (false = true) by decide)] at H; exact H
    clear H; have H := H1; clear H1; have H' := Aside0.mk H; clear H
    try go_wp2
    have n0_ := Aside0.mk (blk_drew BK274.out); have n1_ := Aside0.mk (blk_drew BK275.out)
    have n2_ := Aside0.mk (below_drew1 HB.out)
    clear BK274; clear BK275; clear HB; have BK274 := n0_; have BK275 := n1_; have HB := n2_; clear n0_ n1_ n2_
    refine start_ (n := 30) (S := fun w' => w'.cell? ⟨gb274, 0, none⟩ = some (.int .u64 a1_0) ∧ w'.cell? ⟨gb274, 1, none⟩ = some (.int .u64 a1_1) ∧ w'.cell? ⟨gb274, 2, none⟩ = some (.int .u64 a1_2) ∧ w'.cell? ⟨gb274, 3, none⟩ = some (.int .u64 a1_3)) (ds := []) #[false, false, false, false, false, false, false, false, false, false, false, false, false, false, false, false, false, false, false, false, false, false, false, false, false, false, false, false, false, false] (by kernel_rfl) rfl rfl ⟨(blk_cell BK274.out 0).trans rfl, (blk_cell BK274.out 1).trans rfl, (blk_cell BK274.out 2).trans rfl, (blk_cell BK274.out 3).trans rfl⟩ (fun hHeld => ?_); refine with_tabW posternlaw15_SpanSound.tab4 posternlaw15_SpanSound.bits4 (fun HT_ HW_ => ?_)
    generalize w14.drew = w41 at BK274 BK275 HB hHeld ⊢
    refine pure_ (i := 0) (N := some 29) (v := ?_) (a' := ?_) #[true, false, false, false, false, false, false, false, false, false, false, false, false, false, false, false, false, false, false, false, false, false, false, false, false, false, false, false, false, false] rfl rfl (any_of HT_.out (by kernel_rfl)) (fun _ _ _ h => h) (Or.inl ⟨by rfl, ?_⟩) ?_ ?_
    rotate_left
    · intro w'; go_simp; with_reducible rfl
    rotate_left
    · simp only [Act.put, qT, q0, q1, i64_w, i32_w]; rfl
    refine pure_ (i := 2) (N := some 31) (v := ?_) (a' := ?_) #[true, false, true, false, false, false, false, false, false, false, false, false, false, false, false, false, false, false, false, false, false, false, false, false, false, false, false, false, false, false] rfl rfl (any_of HT_.out (by kernel_rfl)) (fun _ _ _ h => h) (Or.inl ⟨by rfl, ?_⟩) ?_ ?_
    rotate_left
    · intro w'; go_simp; with_reducible rfl
    rotate_left
    · simp only [Act.put, qT, q0, q1, i64_w, i32_w]; rfl
    refine take_ (i := 1) (N := some 30) (v := ?_) (a' := ?_) #[true, true, true, false, false, false, false, false, false, false, false, false, false, false, false, false, false, false, false, false, false, false, false, false, false, false, false, false, false, false] rfl rfl (take_ofW HT_.out HW_.out (by kernel_rfl)) (fun _ _ _ h => h) (Or.inl ⟨by rfl, ?_⟩) hHeld ?_ ?_
    rotate_left
    ·
     rintro w' ⟨s0, s1, s2, s3⟩
     go_simp; with_reducible rfl
    rotate_left
    · simp only [Act.put, qT, q0, q1, i64_w, i32_w]; rfl
    refine one_ (i := 3) (N := some 32) #[true, true, true, true, false, false, false, false, false, false, false, false, false, false, false, false, false, false, false, false, false, false, false, false, false, false, false, false, false, false] rfl rfl (one_of HT_.out (by kernel_rfl)) (by decide) (fun K hK => ?_)
    refine goes_ Try.func39 (by kernel_rfl) rfl #[.agg #[.int .u64 a1_0, .int .u64 a1_1], .int .u64 t277] (by rfl) rfl rfl (by (try simp only [List.map_toArray, List.map_cons, List.map_nil]); first | done | rfl | (simp only [List.length_drop, List.length_take]; rfl)) ?_
    with_reducible refine (span_Has.calls a1_0 a1_1 t277 false _ A15.out).mono ?_
    rintro e w42 ⟨rfl, hb⟩; refine ⟨_, rfl, ?_⟩
    have n0_ := Aside0.mk (blk_below (g := gb274) (o := .cells #[.int .u64 a1_0, .int .u64 a1_1, .int .u64 a1_2, .int .u64 a1_3] 63 (0, 0)) (by (with_reducible repeat (first | apply bN | apply bD | apply bA)); exact BK274.out) hb)
    have n1_ := Aside0.mk (blk_below (g := gb275) (o := .cells #[.int .u64 a2_0, .int .u64 a2_1] 26 (0, 0)) (by (with_reducible repeat (first | apply bN | apply bD | apply bA)); exact BK275.out) hb)
    have n2_ := Aside0.mk (below_step (by repeat (first | (with_reducible first | exact HB.out | apply lA | apply lN | apply lD | refine lS ?_ ‹_›) | exact HB.out)) hb)
    clear BK274; clear BK275; clear HB; have BK274 := n0_; have BK275 := n1_; have HB := n2_; clear n0_ n1_ n2_; (try clear hb); (try clear hb2); (try clear hk); (try clear hi)
    refine hK.out _ _ ⟨(blk_cell BK274.out 0).trans rfl, (blk_cell BK274.out 1).trans rfl, (blk_cell BK274.out 2).trans rfl, (blk_cell BK274.out 3).trans rfl⟩ (fun hHeld => ?_)
    clear hK K
    refine norm_ (a' := ?_) ?_ ?_
    rotate_left
    ·
     show Act.put _ (some 32) _ = _
     simp only [Act.put, qT, q0, q1, i64_w, i32_w]; rfl
    refine pure_ (i := 4) (N := some 33) (v := ?_) (a' := ?_) #[true, true, true, true, true, false, false, false, false, false, false, false, false, false, false, false, false, false, false, false, false, false, false, false, false, false, false, false, false, false] rfl rfl (any_of HT_.out (by kernel_rfl)) (fun _ _ _ h => h) (Or.inl ⟨by rfl, ?_⟩) ?_ ?_
    rotate_left
    · intro w'; go_simp; with_reducible rfl
    rotate_left
    · simp only [Act.put, qT, q0, q1, i64_w, i32_w]; rfl
    refine pure_ (i := 5) (N := some 34) (v := ?_) (a' := ?_) #[true, true, true, true, true, true, false, false, false, false, false, false, false, false, false, false, false, false, false, false, false, false, false, false, false, false, false, false, false, false] rfl rfl (any_of HT_.out (by kernel_rfl)) (fun _ _ _ h => h) (Or.inl ⟨by rfl, ?_⟩) ?_ ?_
    rotate_left
    · intro w'; go_simp; with_reducible rfl
    rotate_left
    · simp only [Act.put, qT, q0, q1, i64_w, i32_w]; rfl
    refine pure_ (i := 6) (N := some 35) (v := undef) (a' := ?_) #[true, true, true, true, true, true, true, false, false, false, false, false, false, false, false, false, false, false, false, false, false, false, false, false, false, false, false, false, false, false] rfl rfl (any_of HT_.out (by kernel_rfl)) (fun _ _ _ h => h) (Or.inr ⟨by rfl, rfl⟩) ?_ ?_
    rotate_left
    · simp only [Act.put, qT, q0, q1, i64_w, i32_w]; rfl
    refine pure_ (i := 7) (N := some 36) (v := undef) (a' := ?_) #[true, true, true, true, true, true, true, true, false, false, false, false, false, false, false, false, false, false, false, false, false, false, false, false, false, false, false, false, false, false] rfl rfl (any_of HT_.out (by kernel_rfl)) (fun _ _ _ h => h) (Or.inr ⟨by rfl, rfl⟩) ?_ ?_
    rotate_left
    · simp only [Act.put, qT, q0, q1, i64_w, i32_w]; rfl
    refine pure_ (i := 8) (N := some 37) (v := undef) (a' := ?_) #[true, true, true, true, true, true, true, true, true, false, false, false, false, false, false, false, false, false, false, false, false, false, false, false, false, false, false, false, false, false] rfl rfl (any_of HT_.out (by kernel_rfl)) (fun _ _ _ h => h) (Or.inr ⟨by rfl, rfl⟩) ?_ ?_
    rotate_left
    · simp only [Act.put, qT, q0, q1, i64_w, i32_w]; rfl
    refine pure_ (i := 9) (N := some 38) (v := undef) (a' := ?_) #[true, true, true, true, true, true, true, true, true, true, false, false, false, false, false, false, false, false, false, false, false, false, false, false, false, false, false, false, false, false] rfl rfl (any_of HT_.out (by kernel_rfl)) (fun _ _ _ h => h) (Or.inr ⟨by rfl, rfl⟩) ?_ ?_
    rotate_left
    · simp only [Act.put, qT, q0, q1, i64_w, i32_w]; rfl
    refine pure_ (i := 10) (N := some 39) (v := undef) (a' := ?_) #[true, true, true, true, true, true, true, true, true, true, true, false, false, false, false, false, false, false, false, false, false, false, false, false, false, false, false, false, false, false] rfl rfl (any_of HT_.out (by kernel_rfl)) (fun _ _ _ h => h) (Or.inr ⟨by rfl, rfl⟩) ?_ ?_
    rotate_left
    · simp only [Act.put, qT, q0, q1, i64_w, i32_w]; rfl
    refine pure_ (i := 11) (N := some 40) (v := undef) (a' := ?_) #[true, true, true, true, true, true, true, true, true, true, true, true, false, false, false, false, false, false, false, false, false, false, false, false, false, false, false, false, false, false] rfl rfl (any_of HT_.out (by kernel_rfl)) (fun _ _ _ h => h) (Or.inr ⟨by rfl, rfl⟩) ?_ ?_
    rotate_left
    · simp only [Act.put, qT, q0, q1, i64_w, i32_w]; rfl
    refine pure_ (i := 12) (N := some 41) (v := undef) (a' := ?_) #[true, true, true, true, true, true, true, true, true, true, true, true, true, false, false, false, false, false, false, false, false, false, false, false, false, false, false, false, false, false] rfl rfl (any_of HT_.out (by kernel_rfl)) (fun _ _ _ h => h) (Or.inr ⟨by rfl, rfl⟩) ?_ ?_
    rotate_left
    · simp only [Act.put, qT, q0, q1, i64_w, i32_w]; rfl
    refine pure_ (i := 13) (N := some 42) (v := undef) (a' := ?_) #[true, true, true, true, true, true, true, true, true, true, true, true, true, true, false, false, false, false, false, false, false, false, false, false, false, false, false, false, false, false] rfl rfl (any_of HT_.out (by kernel_rfl)) (fun _ _ _ h => h) (Or.inr ⟨by rfl, rfl⟩) ?_ ?_
    rotate_left
    · simp only [Act.put, qT, q0, q1, i64_w, i32_w]; rfl
    refine pure_ (i := 14) (N := some 43) (v := undef) (a' := ?_) #[true, true, true, true, true, true, true, true, true, true, true, true, true, true, true, false, false, false, false, false, false, false, false, false, false, false, false, false, false, false] rfl rfl (any_of HT_.out (by kernel_rfl)) (fun _ _ _ h => h) (Or.inr ⟨by rfl, rfl⟩) ?_ ?_
    rotate_left
    · simp only [Act.put, qT, q0, q1, i64_w, i32_w]; rfl
    refine pure_ (i := 15) (N := some 44) (v := ?_) (a' := ?_) #[true, true, true, true, true, true, true, true, true, true, true, true, true, true, true, true, false, false, false, false, false, false, false, false, false, false, false, false, false, false] rfl rfl (any_of HT_.out (by kernel_rfl)) (fun _ _ _ h => h) (Or.inl ⟨by rfl, ?_⟩) ?_ ?_
    rotate_left
    · intro w'; go_simp; with_reducible rfl
    rotate_left
    · simp only [Act.put, qT, q0, q1, i64_w, i32_w]; rfl
    refine pure_ (i := 16) (N := some 45) (v := ?_) (a' := ?_) #[true, true, true, true, true, true, true, true, true, true, true, true, true, true, true, true, true, false, false, false, false, false, false, false, false, false, false, false, false, false] rfl rfl (any_of HT_.out (by kernel_rfl)) (fun _ _ _ h => h) (Or.inl ⟨by rfl, ?_⟩) ?_ ?_
    rotate_left
    · intro w'; go_simp; with_reducible rfl
    rotate_left
    · simp only [Act.put, qT, q0, q1, i64_w, i32_w]; rfl
    refine pure_ (i := 17) (N := some 46) (v := undef) (a' := ?_) #[true, true, true, true, true, true, true, true, true, true, true, true, true, true, true, true, true, true, false, false, false, false, false, false, false, false, false, false, false, false] rfl rfl (any_of HT_.out (by kernel_rfl)) (fun _ _ _ h => h) (Or.inr ⟨by rfl, rfl⟩) ?_ ?_
    rotate_left
    · simp only [Act.put, qT, q0, q1, i64_w, i32_w]; rfl
    refine pure_ (i := 18) (N := some 47) (v := undef) (a' := ?_) #[true, true, true, true, true, true, true, true, true, true, true, true, true, true, true, true, true, true, true, false, false, false, false, false, false, false, false, false, false, false] rfl rfl (any_of HT_.out (by kernel_rfl)) (fun _ _ _ h => h) (Or.inr ⟨by rfl, rfl⟩) ?_ ?_
    rotate_left
    · simp only [Act.put, qT, q0, q1, i64_w, i32_w]; rfl
    refine pure_ (i := 19) (N := some 48) (v := undef) (a' := ?_) #[true, true, true, true, true, true, true, true, true, true, true, true, true, true, true, true, true, true, true, true, false, false, false, false, false, false, false, false, false, false] rfl rfl (any_of HT_.out (by kernel_rfl)) (fun _ _ _ h => h) (Or.inr ⟨by rfl, rfl⟩) ?_ ?_
    rotate_left
    · simp only [Act.put, qT, q0, q1, i64_w, i32_w]; rfl
    refine pure_ (i := 20) (N := some 49) (v := undef) (a' := ?_) #[true, true, true, true, true, true, true, true, true, true, true, true, true, true, true, true, true, true, true, true, true, false, false, false, false, false, false, false, false, false] rfl rfl (any_of HT_.out (by kernel_rfl)) (fun _ _ _ h => h) (Or.inr ⟨by rfl, rfl⟩) ?_ ?_
    rotate_left
    · simp only [Act.put, qT, q0, q1, i64_w, i32_w]; rfl
    refine pure_ (i := 21) (N := some 50) (v := ?_) (a' := ?_) #[true, true, true, true, true, true, true, true, true, true, true, true, true, true, true, true, true, true, true, true, true, true, false, false, false, false, false, false, false, false] rfl rfl (any_of HT_.out (by kernel_rfl)) (fun _ _ _ h => h) (Or.inl ⟨by rfl, ?_⟩) ?_ ?_
    rotate_left
    · intro w'; go_simp; with_reducible rfl
    rotate_left
    · simp only [Act.put, qT, q0, q1, i64_w, i32_w]; rfl
    refine pure_ (i := 22) (N := some 51) (v := ?_) (a' := ?_) #[true, true, true, true, true, true, true, true, true, true, true, true, true, true, true, true, true, true, true, true, true, true, true, false, false, false, false, false, false, false] rfl rfl (any_of HT_.out (by kernel_rfl)) (fun _ _ _ h => h) (Or.inl ⟨by rfl, ?_⟩) ?_ ?_
    rotate_left
    · intro w'; go_simp; with_reducible rfl
    rotate_left
    · simp only [Act.put, qT, q0, q1, i64_w, i32_w]; rfl
    refine pure_ (i := 23) (N := some 52) (v := undef) (a' := ?_) #[true, true, true, true, true, true, true, true, true, true, true, true, true, true, true, true, true, true, true, true, true, true, true, true, false, false, false, false, false, false] rfl rfl (any_of HT_.out (by kernel_rfl)) (fun _ _ _ h => h) (Or.inr ⟨by rfl, rfl⟩) ?_ ?_
    rotate_left
    · simp only [Act.put, qT, q0, q1, i64_w, i32_w]; rfl
    refine pure_ (i := 24) (N := some 53) (v := undef) (a' := ?_) #[true, true, true, true, true, true, true, true, true, true, true, true, true, true, true, true, true, true, true, true, true, true, true, true, true, false, false, false, false, false] rfl rfl (any_of HT_.out (by kernel_rfl)) (fun _ _ _ h => h) (Or.inr ⟨by rfl, rfl⟩) ?_ ?_
    rotate_left
    · simp only [Act.put, qT, q0, q1, i64_w, i32_w]; rfl
    refine pure_ (i := 25) (N := some 54) (v := undef) (a' := ?_) #[true, true, true, true, true, true, true, true, true, true, true, true, true, true, true, true, true, true, true, true, true, true, true, true, true, true, false, false, false, false] rfl rfl (any_of HT_.out (by kernel_rfl)) (fun _ _ _ h => h) (Or.inr ⟨by rfl, rfl⟩) ?_ ?_
    rotate_left
    · simp only [Act.put, qT, q0, q1, i64_w, i32_w]; rfl
    refine pure_ (i := 26) (N := some 55) (v := undef) (a' := ?_) #[true, true, true, true, true, true, true, true, true, true, true, true, true, true, true, true, true, true, true, true, true, true, true, true, true, true, true, false, false, false] rfl rfl (any_of HT_.out (by kernel_rfl)) (fun _ _ _ h => h) (Or.inr ⟨by rfl, rfl⟩) ?_ ?_
    rotate_left
    · simp only [Act.put, qT, q0, q1, i64_w, i32_w]; rfl
    refine pure_ (i := 27) (N := some 56) (v := undef) (a' := ?_) #[true, true, true, true, true, true, true, true, true, true, true, true, true, true, true, true, true, true, true, true, true, true, true, true, true, true, true, true, false, false] rfl rfl (any_of HT_.out (by kernel_rfl)) (fun _ _ _ h => h) (Or.inr ⟨by rfl, rfl⟩) ?_ ?_
    rotate_left
    · simp only [Act.put, qT, q0, q1, i64_w, i32_w]; rfl
    refine pure_ (i := 28) (N := some 57) (v := undef) (a' := ?_) #[true, true, true, true, true, true, true, true, true, true, true, true, true, true, true, true, true, true, true, true, true, true, true, true, true, true, true, true, true, false] rfl rfl (any_of HT_.out (by kernel_rfl)) (fun _ _ _ h => h) (Or.inr ⟨by rfl, rfl⟩) ?_ ?_
    rotate_left
    · simp only [Act.put, qT, q0, q1, i64_w, i32_w]; rfl
    refine pure_ (i := 29) (N := some 58) (v := ?_) (a' := ?_) #[true, true, true, true, true, true, true, true, true, true, true, true, true, true, true, true, true, true, true, true, true, true, true, true, true, true, true, true, true, true] rfl rfl (any_of HT_.out (by kernel_rfl)) (fun _ _ _ h => h) (Or.inl ⟨by rfl, ?_⟩) ?_ ?_
    rotate_left
    · intro w'; go_simp; with_reducible rfl
    rotate_left
    · simp only [Act.put, qT, q0, q1, i64_w, i32_w]; rfl
    refine done_ (done_of HT_.out (by kernel_rfl)) ?_
    try go_wp2
    go_meet
    case rel => exact ⟨_, (true), (by first | rfl | (simp; done) | (simp [*]; done)), H', ⟨by first | omega | exact Nat.le_refl _⟩, ⟨by (with_reducible repeat (first | apply bN | apply bD | apply bA)); exact BK274.out⟩, ⟨by (with_reducible repeat (first | apply bN | apply bD | apply bA)); exact BK275.out⟩, ⟨by repeat (first | (with_reducible first | exact HB.out | apply lA | apply lN | apply lD | refine lS ?_ ‹_›) | exact HB.out)⟩⟩
  case rest =>
   clear HC8; (try clear c1); (try clear c2); (try clear p2); (try clear c3); (try clear c4); (try clear c16); (try clear c26); (try clear c37); (try clear c39); (try clear c40); (try clear c41)
   obtain ⟨kq, x58_7, rfl, HA, HJ7, BK274, BK275, HB⟩ := hcut
   cases kq with
   | zero => exact absurd HA.out (by simp [posternlaw15_SpanSound.j0])
   | succ kj7 =>
    have H := HA.out
    clear HA
    simp only [posternlaw15_SpanSound.j0] at H
    by_cases c43 : x58_7 = true
    ·
     subst c43
     have H1 : (some false) = some r := by rw [if_pos rfl] at H; exact H
     clear H; have H := H1; clear H1
     exact absurd (H.trans (congrArg some hr_.out)) (by simp)
    ·
     replace c43 := Bool.eq_false_iff.mpr c43
     subst c43
     have H1 : ((some (([true, false] : List Bool) : List Bool)).bind fun y287 => (posternlaw15_SpanSound.l0 kj7 a0 t277 t278 y287 (y287.length : Int) 0 a1_0 a1_1 a1_2 a1_3)) = some r := by rw [if_neg (show ¬ (false = true) by decide)] at H; exact H
     clear H; have H := H1; clear H1
     obtain ⟨y287, hy287⟩ : ∃ y_ : List Bool, y_ = (([true, false] : List Bool)) := ⟨_, rfl⟩
     replace H : (posternlaw15_SpanSound.l0 kj7 a0 t277 t278 y287 (y287.length : Int) 0 a1_0 a1_1 a1_2 a1_3) = some r := by first | (rw [hy287]; with_reducible exact H) | (have H2_ := (Option.bind_some _ _).symm.trans H; rw [hy287]; with_reducible exact H2_) | (have H2_ := (Option.bind_some _ _).symm.trans H; with_reducible exact H2_) | with_reducible exact H | (rw [hy287]; exact H) | exact H
     have Ny287 := Aside0.mk hy287
     clear hy287; have H' := Aside0.mk H; clear H
     go_wp2_with (first | ((with_reducible refine gate_dst (N := 59) rfl ?_); refine Kd.R_lit Kd.bool _ 4 ?hg (N := 59) ?hd (xs := ([true, false] : List Bool)) (inner := [.bool true, .bool false]) (ok := fun _ => True) (okp := fun _ => True) ?hr ?hp (fun _ hk => hk) trivial (Below.refl _ _) (Nat.le_refl _) (by simp) ?_; (case hd => rfl); (case hg => rfl); (case hr => first | (go_simp; done) | (go_simp; rfl)); (case hp => exact (Reps.one (show Kd.M Kd.bool _ _ _ true [.bool true] from rfl) (Reps.one (show Kd.M Kd.bool _ _ _ false [.bool false] from rfl) (Reps.none _ _)))); intro v288 w44 ho45 hb hg_ hnew_; clear hg_ hnew_; (first | rw [← Ny287.out] at ho45 | (simp only [Int.reduceToNat] at ho45; rw [← Ny287.out] at ho45)); have n0_ := Aside0.mk (Kd.R_lower ho45 (below_size (by repeat (first | (with_reducible first | exact HB.out | apply lA | apply lN | apply lD | refine lS ?_ ‹_›) | exact HB.out)))); have n1_ := Aside0.mk (blk_below (g := gb274) (o := .cells #[.int .u64 a1_0, .int .u64 a1_1, .int .u64 a1_2, .int .u64 a1_3] 63 (0, 0)) (by (with_reducible repeat (first | apply bN | apply bD | apply bA)); exact BK274.out) hb); have n2_ := Aside0.mk (blk_below (g := gb275) (o := .cells #[.int .u64 a2_0, .int .u64 a2_1] 26 (0, 0)) (by (with_reducible repeat (first | apply bN | apply bD | apply bA)); exact BK275.out) hb); have n3_ := Aside0.mk (below_step (by repeat (first | (with_reducible first | exact HB.out | apply lA | apply lN | apply lD | refine lS ?_ ‹_›) | exact HB.out)) hb); clear BK274; clear BK275; clear HB; have HO289 := n0_; have BK274 := n1_; have BK275 := n2_; have HB := n3_; clear n0_ n1_ n2_ n3_; clear hb ho45; obtain ⟨Ao46, co46, eo46⟩ := Kd.R_slice HO289.out; subst eo46))
     go_loopg [61] kj7 (fun kq v61 w' => ∃ (x61_2 : Int), v61 = .int .i64 x61_2 ∧ Aside0 (posternlaw15_SpanSound.l0 kq a0 t277 t278 y287 (y287.length : Int) x61_2 a1_0 a1_1 a1_2 a1_3 = some r) ∧ Aside0 (kq ≤ kj7) ∧ Aside0 (Kd.R Kd.bool 4 w' w.heap.size (fun _ => True) (.slice Ao46 y287.length co46) y287) ∧ Aside0 (w'.heap[gb274]? = some (.cells #[.int .u64 a1_0, .int .u64 a1_1, .int .u64 a1_2, .int .u64 a1_3] 63 (0, 0))) ∧ Aside0 (w'.heap[gb275]? = some (.cells #[.int .u64 a2_0, .int .u64 a2_1] 26 (0, 0))) ∧ Aside0 (Below w.heap.size w w'))
     case atStart => exact ⟨(0), (by first | rfl | (simp; done) | (simp [*]; done)), H', ⟨Nat.le_refl _⟩, ⟨by (with_reducible repeat (first | apply Kd.R_alloc | apply Kd.R_drewN | apply Kd.R_drew)); exact HO289.out⟩, ⟨by (with_reducible repeat (first | apply bN | apply bD | apply bA)); exact BK274.out⟩, ⟨by (with_reducible repeat (first | apply bN | apply bD | apply bA)); exact BK275.out⟩, ⟨by repeat (first | (with_reducible first | exact HB.out | apply lA | apply lN | apply lD | refine lS ?_ ‹_›) | exact HB.out)⟩⟩
     case round =>
      clear H'
      (try clear c1); (try clear c2)
      (try clear p2); (try clear c3)
      (try clear c4); (try clear c16)
      (try clear c26); (try clear c37)
      (try clear c39); (try clear c40)
      (try clear c41); (try clear c43)
      (try clear p2)
      obtain ⟨x61_2, rfl, HA, HK2, HO_59, BK274, BK275, HB⟩ := hrel
      cases gk with
      | zero => exact absurd HA.out (by simp [posternlaw15_SpanSound.l0])
      | succ k2 =>
       have H := HA.out
       clear HA
       simp only [posternlaw15_SpanSound.l0] at H
       by_cases c47 : x61_2 < (y287.length : Int)
       ·
        rw [if_pos c47] at H
        have c47b0 : decide (x61_2 < (y287.length : Int)) = true := decide_eq_true c47; clear c47
        by_cases c48 : 0 ≤ x61_2
        ·
         rw [if_pos c48] at H
         have c48b0 : decide (0 ≤ x61_2) = true := decide_eq_true c48; clear c48
         by_cases c49 : x61_2 < (y287.length : Int)
         ·
          rw [if_pos c49] at H
          have c49b0 : decide (x61_2 < (y287.length : Int)) = true := decide_eq_true c49; clear c49; replace H := Option.bind_eq_some_iff.mp H; obtain ⟨⟨t291, t292, t293⟩, A500, H⟩ := H
          replace H : ((posternlaw15_size.f (rdOf false y287 x61_2)).bind fun t295 => ((posternref05_Do.f k2 a0 t295 t277 t278).bind fun bt296 => ((span_Const.f t277).bind fun bt298 => ((span_Const.f t278).bind fun bt300 => ((span_Do.f k2 a0 (rdOf false y287 x61_2) bt298.1 bt298.2 bt300.1 bt300.2).bind fun bt302 => (if bt296.2 = true then (if t293 = 0 then (if bt302.2.2 = 0 then (if t291 > bt296.1 then (some false) else (if bt296.1 > t292 then (some false) else (if (!(bt302.1 == bt296.1) || (!(bt302.2.1 == bt296.1))) = true then (some false) else (if rdOf false y287 x61_2 = true then (posternlaw15_SpanSound.l0 k2 a0 t277 t278 y287 (y287.length : Int) (wrap64 (x61_2 + 1)) a1_0 a1_1 a1_2 a1_3) else (if (t292 / 4294967296) = 0 then (posternlaw15_SpanSound.l0 k2 a0 t277 t278 y287 (y287.length : Int) (wrap64 (x61_2 + 1)) a1_0 a1_1 a1_2 a1_3) else (some false)))))) else (some false)) else (some false)) else (if t293 = 2 then (if bt302.2.2 = 2 then (posternlaw15_SpanSound.j2 k2 a0 t277 t278 y287 (y287.length : Int) x61_2 (!(t291 == 0) || (!(t292 == 0))) a1_0 a1_1 a1_2 a1_3) else (posternlaw15_SpanSound.j2 k2 a0 t277 t278 y287 (y287.length : Int) x61_2 true a1_0 a1_1 a1_2 a1_3)) else (posternlaw15_SpanSound.j2 k2 a0 t277 t278 y287 (y287.length : Int) x61_2 true a1_0 a1_1 a1_2 a1_3)))))))) = some r := H
          have A50 := Aside0.mk A500; clear A500; replace H := Option.bind_eq_some_iff.mp H; obtain ⟨t295, A510, H⟩ := H
          replace H : ((posternref05_Do.f k2 a0 t295 t277 t278).bind fun bt296 => ((span_Const.f t277).bind fun bt298 => ((span_Const.f t278).bind fun bt300 => ((span_Do.f k2 a0 (rdOf false y287 x61_2) bt298.1 bt298.2 bt300.1 bt300.2).bind fun bt302 => (if bt296.2 = true then (if t293 = 0 then (if bt302.2.2 = 0 then (if t291 > bt296.1 then (some false) else (if bt296.1 > t292 then (some false) else (if (!(bt302.1 == bt296.1) || (!(bt302.2.1 == bt296.1))) = true then (some false) else (if rdOf false y287 x61_2 = true then (posternlaw15_SpanSound.l0 k2 a0 t277 t278 y287 (y287.length : Int) (wrap64 (x61_2 + 1)) a1_0 a1_1 a1_2 a1_3) else (if (t292 / 4294967296) = 0 then (posternlaw15_SpanSound.l0 k2 a0 t277 t278 y287 (y287.length : Int) (wrap64 (x61_2 + 1)) a1_0 a1_1 a1_2 a1_3) else (some false)))))) else (some false)) else (some false)) else (if t293 = 2 then (if bt302.2.2 = 2 then (posternlaw15_SpanSound.j2 k2 a0 t277 t278 y287 (y287.length : Int) x61_2 (!(t291 == 0) || (!(t292 == 0))) a1_0 a1_1 a1_2 a1_3) else (posternlaw15_SpanSound.j2 k2 a0 t277 t278 y287 (y287.length : Int) x61_2 true a1_0 a1_1 a1_2 a1_3)) else (posternlaw15_SpanSound.j2 k2 a0 t277 t278 y287 (y287.length : Int) x61_2 true a1_0 a1_1 a1_2 a1_3))))))) = some r := H
          have A51 := Aside0.mk A510; clear A510; replace H := Option.bind_eq_some_iff.mp H; obtain ⟨⟨t296, t297⟩, A520, H⟩ := H
          replace H : ((span_Const.f t277).bind fun bt298 => ((span_Const.f t278).bind fun bt300 => ((span_Do.f k2 a0 (rdOf false y287 x61_2) bt298.1 bt298.2 bt300.1 bt300.2).bind fun bt302 => (if t297 = true then (if t293 = 0 then (if bt302.2.2 = 0 then (if t291 > t296 then (some false) else (if t296 > t292 then (some false) else (if (!(bt302.1 == t296) || (!(bt302.2.1 == t296))) = true then (some false) else (if rdOf false y287 x61_2 = true then (posternlaw15_SpanSound.l0 k2 a0 t277 t278 y287 (y287.length : Int) (wrap64 (x61_2 + 1)) a1_0 a1_1 a1_2 a1_3) else (if (t292 / 4294967296) = 0 then (posternlaw15_SpanSound.l0 k2 a0 t277 t278 y287 (y287.length : Int) (wrap64 (x61_2 + 1)) a1_0 a1_1 a1_2 a1_3) else (some false)))))) else (some false)) else (some false)) else (if t293 = 2 then (if bt302.2.2 = 2 then (posternlaw15_SpanSound.j2 k2 a0 t277 t278 y287 (y287.length : Int) x61_2 (!(t291 == 0) || (!(t292 == 0))) a1_0 a1_1 a1_2 a1_3) else (posternlaw15_SpanSound.j2 k2 a0 t277 t278 y287 (y287.length : Int) x61_2 true a1_0 a1_1 a1_2 a1_3)) else (posternlaw15_SpanSound.j2 k2 a0 t277 t278 y287 (y287.length : Int) x61_2 true a1_0 a1_1 a1_2 a1_3)))))) = some r := H
          have A52 := Aside0.mk A520; clear A520; replace H := Option.bind_eq_some_iff.mp H; obtain ⟨⟨t298, t299⟩, A530, H⟩ := H
          replace H : ((span_Const.f t278).bind fun bt300 => ((span_Do.f k2 a0 (rdOf false y287 x61_2) t298 t299 bt300.1 bt300.2).bind fun bt302 => (if t297 = true then (if t293 = 0 then (if bt302.2.2 = 0 then (if t291 > t296 then (some false) else (if t296 > t292 then (some false) else (if (!(bt302.1 == t296) || (!(bt302.2.1 == t296))) = true then (some false) else (if rdOf false y287 x61_2 = true then (posternlaw15_SpanSound.l0 k2 a0 t277 t278 y287 (y287.length : Int) (wrap64 (x61_2 + 1)) a1_0 a1_1 a1_2 a1_3) else (if (t292 / 4294967296) = 0 then (posternlaw15_SpanSound.l0 k2 a0 t277 t278 y287 (y287.length : Int) (wrap64 (x61_2 + 1)) a1_0 a1_1 a1_2 a1_3) else (some false)))))) else (some false)) else (some false)) else (if t293 = 2 then (if bt302.2.2 = 2 then (posternlaw15_SpanSound.j2 k2 a0 t277 t278 y287 (y287.length : Int) x61_2 (!(t291 == 0) || (!(t292 == 0))) a1_0 a1_1 a1_2 a1_3) else (posternlaw15_SpanSound.j2 k2 a0 t277 t278 y287 (y287.length : Int) x61_2 true a1_0 a1_1 a1_2 a1_3)) else (posternlaw15_SpanSound.j2 k2 a0 t277 t278 y287 (y287.length : Int) x61_2 true a1_0 a1_1 a1_2 a1_3))))) = some r := H
          have A53 := Aside0.mk A530; clear A530; replace H := Option.bind_eq_some_iff.mp H; obtain ⟨⟨t300, t301⟩, A540, H⟩ := H
          replace H : ((span_Do.f k2 a0 (rdOf false y287 x61_2) t298 t299 t300 t301).bind fun bt302 => (if t297 = true then (if t293 = 0 then (if bt302.2.2 = 0 then (if t291 > t296 then (some false) else (if t296 > t292 then (some false) else (if (!(bt302.1 == t296) || (!(bt302.2.1 == t296))) = true then (some false) else (if rdOf false y287 x61_2 = true then (posternlaw15_SpanSound.l0 k2 a0 t277 t278 y287 (y287.length : Int) (wrap64 (x61_2 + 1)) a1_0 a1_1 a1_2 a1_3) else (if (t292 / 4294967296) = 0 then (posternlaw15_SpanSound.l0 k2 a0 t277 t278 y287 (y287.length : Int) (wrap64 (x61_2 + 1)) a1_0 a1_1 a1_2 a1_3) else (some false)))))) else (some false)) else (some false)) else (if t293 = 2 then (if bt302.2.2 = 2 then (posternlaw15_SpanSound.j2 k2 a0 t277 t278 y287 (y287.length : Int) x61_2 (!(t291 == 0) || (!(t292 == 0))) a1_0 a1_1 a1_2 a1_3) else (posternlaw15_SpanSound.j2 k2 a0 t277 t278 y287 (y287.length : Int) x61_2 true a1_0 a1_1 a1_2 a1_3)) else (posternlaw15_SpanSound.j2 k2 a0 t277 t278 y287 (y287.length : Int) x61_2 true a1_0 a1_1 a1_2 a1_3)))) = some r := H
          have A54 := Aside0.mk A540; clear A540; replace H := Option.bind_eq_some_iff.mp H; obtain ⟨⟨t302, t303, t304⟩, A550, H⟩ := H
          replace H : (if t297 = true then (if t293 = 0 then (if t304 = 0 then (if t291 > t296 then (some false) else (if t296 > t292 then (some false) else (if (!(t302 == t296) || (!(t303 == t296))) = true then (some false) else (if rdOf false y287 x61_2 = true then (posternlaw15_SpanSound.l0 k2 a0 t277 t278 y287 (y287.length : Int) (wrap64 (x61_2 + 1)) a1_0 a1_1 a1_2 a1_3) else (if (t292 / 4294967296) = 0 then (posternlaw15_SpanSound.l0 k2 a0 t277 t278 y287 (y287.length : Int) (wrap64 (x61_2 + 1)) a1_0 a1_1 a1_2 a1_3) else (some false)))))) else (some false)) else (some false)) else (if t293 = 2 then (if t304 = 2 then (posternlaw15_SpanSound.j2 k2 a0 t277 t278 y287 (y287.length : Int) x61_2 (!(t291 == 0) || (!(t292 == 0))) a1_0 a1_1 a1_2 a1_3) else (posternlaw15_SpanSound.j2 k2 a0 t277 t278 y287 (y287.length : Int) x61_2 true a1_0 a1_1 a1_2 a1_3)) else (posternlaw15_SpanSound.j2 k2 a0 t277 t278 y287 (y287.length : Int) x61_2 true a1_0 a1_1 a1_2 a1_3))) = some r := H
          have A55 := Aside0.mk A550; clear A550
          by_cases c56 : t297 = true
          ·
           subst c56
           have H1 : (if t293 = 0 then (if t304 = 0 then (if t291 > t296 then (some false) else (if t296 > t292 then (some false) else (if (!(t302 == t296) || (!(t303 == t296))) = true then (some false) else (if rdOf false y287 x61_2 = true then (posternlaw15_SpanSound.l0 k2 a0 t277 t278 y287 (y287.length : Int) (wrap64 (x61_2 + 1)) a1_0 a1_1 a1_2 a1_3) else (if (t292 / 4294967296) = 0 then (posternlaw15_SpanSound.l0 k2 a0 t277 t278 y287 (y287.length : Int) (wrap64 (x61_2 + 1)) a1_0 a1_1 a1_2 a1_3) else (some false)))))) else (some false)) else (some false)) = some r := by rw [if_pos rfl] at H; exact H
           clear H; have H := H1; clear H1
           by_cases c57 : t293 = 0
           ·
            rw [if_pos c57] at H
            have c57b0 : (t293 == 0) = true := beq_iff_eq.mpr c57; have c57b1 : (t293 != 0) = false := bne_eq_false_iff_eq.mpr c57; clear c57
            by_cases c58 : t304 = 0
            ·
             rw [if_pos c58] at H
             have c58b0 : (t304 == 0) = true := beq_iff_eq.mpr c58; have c58b1 : (t304 != 0) = false := bne_eq_false_iff_eq.mpr c58; clear c58
             by_cases c59 : t291 > t296
             ·
              rw [if_pos c59] at H
              have c59b0 : decide (t296 < t291) = true := decide_eq_true c59; clear c59
              exact absurd (H.trans (congrArg some hr_.out)) (by simp)
             ·
              rw [if_neg c59] at H
              have c59b0 : decide (t296 < t291) = false := decide_eq_false c59; clear c59
              by_cases c60 : t296 > t292
              ·
               rw [if_pos c60] at H
               have c60b0 : decide (t292 < t296) = true := decide_eq_true c60; clear c60
               exact absurd (H.trans (congrArg some hr_.out)) (by simp)
              ·
               rw [if_neg c60] at H
               have c60b0 : decide (t292 < t296) = false := decide_eq_false c60; clear c60
               by_cases c61 : (!(t302 == t296) || (!(t303 == t296))) = true
               ·
                rw [if_pos c61] at H
                have c61b0 : (!(t302 == t296) || (!(t303 == t296))) = true := c61
                clear c61
                exact absurd (H.trans (congrArg some hr_.out)) (by simp)
               ·
                rw [if_neg c61] at H
                have c61b0 : (!(t302 == t296) || (!(t303 == t296))) = false := by simpa using c61
                clear c61
                obtain ⟨bq62, hbq62⟩ : ∃ b_ : Bool, b_ = (rdOf false y287 x61_2) := ⟨_, rfl⟩
                replace H : (if bq62 = true then (posternlaw15_SpanSound.l0 k2 a0 t277 t278 y287 (y287.length : Int) (wrap64 (x61_2 + 1)) a1_0 a1_1 a1_2 a1_3) else (if (t292 / 4294967296) = 0 then (posternlaw15_SpanSound.l0 k2 a0 t277 t278 y287 (y287.length : Int) (wrap64 (x61_2 + 1)) a1_0 a1_1 a1_2 a1_3) else (some false))) = some r := by rw [← hbq62] at H; exact H
                have Nbq62 := Aside0.mk hbq62
                clear hbq62
                by_cases c63 : bq62 = true
                ·
                 subst c63
                 have H1 : (posternlaw15_SpanSound.l0 k2 a0 t277 t278 y287 (y287.length : Int) (wrap64 (x61_2 + 1)) a1_0 a1_1 a1_2 a1_3) = some r := by rw [if_pos rfl] at H; exact H
                 clear H; have H := H1; clear H1; have H' := Aside0.mk H; clear H
                 have p290 : 0 ≤ (x61_2 : Int) := of_decide_eq_true (by first | (with_reducible assumption) | assumption)
                 have q290 : x61_2 < (y287.length : Int) := of_decide_eq_true (by first | (with_reducible assumption) | assumption)
                 obtain ⟨ad290, e290, hx290_0⟩ := Kd.at_bool (Kd.R_reads' HO_59.out).2.2 x61_2 p290 q290
                 (try rw [← Nbq62.out] at hx290_0); (try (have z_ := A6.out; rw [← Nbq62.out] at z_; replace A6 := Aside0.mk z_; clear z_))
                 (try (have z_ := A7.out; rw [← Nbq62.out] at z_; replace A7 := Aside0.mk z_; clear z_)); (try (have z_ := A15.out; rw [← Nbq62.out] at z_; replace A15 := Aside0.mk z_; clear z_)); (try (have z_ := A17.out; rw [← Nbq62.out] at z_; replace A17 := Aside0.mk z_; clear z_)); (try (have z_ := A18.out; rw [← Nbq62.out] at z_; replace A18 := Aside0.mk z_; clear z_)); (try (have z_ := A24.out; rw [← Nbq62.out] at z_; replace A24 := Aside0.mk z_; clear z_)); (try (have z_ := A25.out; rw [← Nbq62.out] at z_; replace A25 := Aside0.mk z_; clear z_)); (try (have z_ := A27.out; rw [← Nbq62.out] at z_; replace A27 := Aside0.mk z_; clear z_)); (try (have z_ := A50.out; rw [← Nbq62.out] at z_; replace A50 := Aside0.mk z_; clear z_)); (try (have z_ := A51.out; rw [← Nbq62.out] at z_; replace A51 := Aside0.mk z_; clear z_)); (try (have z_ := A52.out; rw [← Nbq62.out] at z_; replace A52 := Aside0.mk z_; clear z_)); (try (have z_ := A53.out; rw [← Nbq62.out] at z_; replace A53 := Aside0.mk z_; clear z_)); (try (have z_ := A54.out; rw [← Nbq62.out] at z_; replace A54 := Aside0.mk z_; clear z_)); (try (have z_ := A55.out; rw [← Nbq62.out] at z_; replace A55 := Aside0.mk z_; clear z_))
                 cases e290
                 replace p290 := eq_true p290
                 replace q290 := eq_true q290
                 have hnb64 := NB274_275.out; have hnc64 := NB275_274.out; have hcz65_0 : wr.cell? ⟨gb274, 0, none⟩ = some (.int .u64 a1_0) := (blk_cell BK274.out 0).trans rfl; have hcz65_1 : wr.cell? ⟨gb274, 1, none⟩ = some (.int .u64 a1_1) := (blk_cell BK274.out 1).trans rfl; have hcz65_2 : wr.cell? ⟨gb274, 2, none⟩ = some (.int .u64 a1_2) := (blk_cell BK274.out 2).trans rfl; have hcz65_3 : wr.cell? ⟨gb274, 3, none⟩ = some (.int .u64 a1_3) := (blk_cell BK274.out 3).trans rfl; have hfz65_0 := blk_frozen BK274.out 0; have hfz65_1 := blk_frozen BK274.out 1; have hfz65_2 := blk_frozen BK274.out 2; have hfz65_3 := blk_frozen BK274.out 3
                 go_wp2_with (first | ((with_reducible refine gate_callee (f := 32) rfl ?_); refine goesL_ (some 72) rfl rfl Try.func32 (by kernel_rfl) rfl #[.int .i64 a0, .bool true, .agg #[.int .u64 a1_0, .int .u64 a1_1], .agg #[.int .u64 a1_2, .int .u64 a1_3]] rfl (by (try simp only [List.map_toArray, List.map_cons, List.map_nil]); first | done | rfl | (simp only [List.length_drop, List.length_take]; rfl)) ?_; (with_reducible refine (span_Do.calls k2 a0 true a1_0 a1_1 a1_2 a1_3 t291 t292 t293 _ A50.out).mono ?_); rintro e w66 ⟨rfl, hb⟩; refine ⟨_, rfl, ?_⟩; have n0_ := Aside0.mk (Kd.R_below (by (with_reducible repeat (first | apply Kd.R_alloc | apply Kd.R_drewN | apply Kd.R_drew)); exact HO_59.out) hb); have n1_ := Aside0.mk (blk_below (g := gb274) (o := .cells #[.int .u64 a1_0, .int .u64 a1_1, .int .u64 a1_2, .int .u64 a1_3] 63 (0, 0)) (by (with_reducible repeat (first | apply bN | apply bD | apply bA)); exact BK274.out) hb); have n2_ := Aside0.mk (blk_below (g := gb275) (o := .cells #[.int .u64 a2_0, .int .u64 a2_1] 26 (0, 0)) (by (with_reducible repeat (first | apply bN | apply bD | apply bA)); exact BK275.out) hb); have n3_ := Aside0.mk (below_step (by repeat (first | (with_reducible first | exact HB.out | apply lA | apply lN | apply lD | refine lS ?_ ‹_›) | exact HB.out)) hb); clear HO_59; clear BK274; clear BK275; clear HB; have HO_59 := n0_; have BK274 := n1_; have BK275 := n2_; have HB := n3_; clear n0_ n1_ n2_ n3_; (try clear hb); (try clear hb2); (try clear hk); (try clear hi)) | ((with_reducible refine gate_dst (N := 11) rfl ?_); refine box_event ?hg (N := 11) ?hd (cs := #[.int .u64 0, .int .u64 0]) (t := 58) ?hr ?_; (case hd => rfl); (case hg => rfl); (case hr => first | (go_simp; done) | (go_simp; rfl)); intro gb294 hg w67 hbox hb; have n0_ := Aside0.mk (Kd.R_below (by (with_reducible repeat (first | apply Kd.R_alloc | apply Kd.R_drewN | apply Kd.R_drew)); exact HO_59.out) hb); have n1_ := Aside0.mk (blk_below (g := gb274) (o := .cells #[.int .u64 a1_0, .int .u64 a1_1, .int .u64 a1_2, .int .u64 a1_3] 63 (0, 0)) (by (with_reducible repeat (first | apply bN | apply bD | apply bA)); exact BK274.out) hb); have n2_ := Aside0.mk (blk_below (g := gb275) (o := .cells #[.int .u64 a2_0, .int .u64 a2_1] 26 (0, 0)) (by (with_reducible repeat (first | apply bN | apply bD | apply bA)); exact BK275.out) hb); have n3_ := Aside0.mk (below_step (by repeat (first | (with_reducible first | exact HB.out | apply lA | apply lN | apply lD | refine lS ?_ ‹_›) | exact HB.out)) hb); have n4_ := Aside0.mk (hbox); have n5_ := Aside0.mk ((by rw [hg]; exact (below_size (by repeat (first | (with_reducible first | exact HB.out | apply lA | apply lN | apply lD | refine lS ?_ ‹_›) | exact HB.out))) : w.heap.size ≤ gb294)); have n6_ := n5_; have n7_ := Aside0.mk ((by rw [hg]; exact Nat.ne_of_lt (blk_lt (g := gb274) (o := .cells #[.int .u64 a1_0, .int .u64 a1_1, .int .u64 a1_2, .int .u64 a1_3] 63 (0, 0)) (by (with_reducible repeat (first | apply bN | apply bD | apply bA)); exact BK274.out)) : gb274 ≠ gb294)); have n8_ := sy n7_; have n9_ := Aside0.mk ((by rw [hg]; exact Nat.ne_of_lt (blk_lt (g := gb275) (o := .cells #[.int .u64 a2_0, .int .u64 a2_1] 26 (0, 0)) (by (with_reducible repeat (first | apply bN | apply bD | apply bA)); exact BK275.out)) : gb275 ≠ gb294)); have n10_ := sy n9_; clear HO_59; clear BK274; clear BK275; clear HB; have HO_59 := n0_; have BK274 := n1_; have BK275 := n2_; have HB := n3_; have BK294 := n4_; have GW294 := n5_; have GE294 := n6_; have NB274_294 := n7_; have NB294_274 := n8_; have NB275_294 := n9_; have NB294_275 := n10_; clear n0_ n1_ n2_ n3_ n4_ n5_ n6_ n7_ n8_ n9_ n10_; clear hb hbox hg; have hnb68 := NB294_274.out; have hnc68 := NB274_294.out; have hnb69 := NB294_275.out; have hnc69 := NB275_294.out; have hcz70_0 : w67.cell? ⟨gb294, 0, none⟩ = some (.int .u64 0) := (blk_cell BK294.out 0).trans rfl; have hcz70_1 : w67.cell? ⟨gb294, 1, none⟩ = some (.int .u64 0) := (blk_cell BK294.out 1).trans rfl; have hfz70_0 := blk_frozen BK294.out 0; have hfz70_1 := blk_frozen BK294.out 1) | ((with_reducible refine gate_callee (f := 35) rfl ?_); refine goesL_ (some 78) rfl rfl Try.func35 (by kernel_rfl) rfl #[.bool true] rfl (by (try simp only [List.map_toArray, List.map_cons, List.map_nil]); first | done | rfl | (simp only [List.length_drop, List.length_take]; rfl)) ?_; (with_reducible refine (posternlaw15_size.calls true t295 _ A51.out).mono ?_); rintro e w' ⟨rfl, ⟨nd, rfl⟩⟩; refine ⟨_, rfl, ?_⟩) | ((with_reducible refine gate_callee (f := 15) rfl ?_); refine goesL_ (some 81) rfl rfl Try.func15 (by kernel_rfl) rfl #[.int .i64 a0, .int .i64 t295, .int .u64 t277, .int .u64 t278] rfl (by (try simp only [List.map_toArray, List.map_cons, List.map_nil]); first | done | rfl | (simp only [List.length_drop, List.length_take]; rfl)) ?_; (with_reducible refine (posternref05_Do.calls k2 a0 t295 t277 t278 t296 true _ A52.out).mono ?_); rintro e w' ⟨rfl, ⟨nd, rfl⟩⟩; refine ⟨_, rfl, ?_⟩) | ((with_reducible refine gate_callee (f := 37) rfl ?_); refine goesL_ (some 88) rfl rfl Try.func37 (by kernel_rfl) rfl #[.int .u64 t277] rfl (by (try simp only [List.map_toArray, List.map_cons, List.map_nil]); first | done | rfl | (simp only [List.length_drop, List.length_take]; rfl)) ?_; (with_reducible refine (span_Const.calls t277 t298 t299 _ A53.out).mono ?_); rintro e w71 ⟨rfl, hb⟩; refine ⟨_, rfl, ?_⟩; have n0_ := Aside0.mk (Kd.R_below (by (with_reducible repeat (first | apply Kd.R_alloc | apply Kd.R_drewN | apply Kd.R_drew)); exact (Kd.R_mono (Kd.R_far (p := ⟨gb294, 1, none⟩) (Kd.R_far (p := ⟨gb294, 0, none⟩) (Kd.R_types HO_59.out BK294.out (by decide)) (fun _ hk => hk.2) (.int .u64 t291)) (fun _ hk => hk.2) (.int .u64 t292)) (fun _ h_ => h_.1))) hb); have n1_ := Aside0.mk (blk_below (g := gb274) (o := .cells #[.int .u64 a1_0, .int .u64 a1_1, .int .u64 a1_2, .int .u64 a1_3] 63 (0, 0)) (by (with_reducible repeat (first | apply bN | apply bD | apply bA)); refine blk_far ?_ NB274_294.out _; (with_reducible repeat (first | apply bN | apply bD | apply bA)); refine blk_far ?_ NB274_294.out _; (with_reducible repeat (first | apply bN | apply bD | apply bA)); exact BK274.out) hb); have n2_ := Aside0.mk (blk_below (g := gb275) (o := .cells #[.int .u64 a2_0, .int .u64 a2_1] 26 (0, 0)) (by (with_reducible repeat (first | apply bN | apply bD | apply bA)); refine blk_far ?_ NB275_294.out _; (with_reducible repeat (first | apply bN | apply bD | apply bA)); refine blk_far ?_ NB275_294.out _; (with_reducible repeat (first | apply bN | apply bD | apply bA)); exact BK275.out) hb); have n3_ := Aside0.mk (blk_below (g := gb294) (o := .cells #[.int .u64 t291, .int .u64 t292] 58 (0, 0)) (by (with_reducible repeat (first | apply bN | apply bD | apply bA)); refine blk_put (cs := #[.int .u64 t291, .int .u64 0]) ?_ 1 _ rfl; (with_reducible repeat (first | apply bN | apply bD | apply bA)); refine blk_put (cs := #[.int .u64 0, .int .u64 0]) ?_ 0 _ rfl; (with_reducible repeat (first | apply bN | apply bD | apply bA)); exact BK294.out) hb); have n4_ := Aside0.mk (below_step (by repeat (first | (with_reducible first | exact HB.out | apply lA | apply lN | apply lD | refine lS ?_ ‹_›) | exact HB.out)) hb); clear HO_59; clear BK274; clear BK275; clear BK294; clear HB; have HO_59 := n0_; have BK274 := n1_; have BK275 := n2_; have BK294 := n3_; have HB := n4_; clear n0_ n1_ n2_ n3_ n4_; (try clear hb); (try clear hb2); (try clear hk); (try clear hi)) | ((with_reducible refine gate_callee (f := 37) rfl ?_); refine goesL_ (some 90) rfl rfl Try.func37 (by kernel_rfl) rfl #[.int .u64 t278] rfl (by (try simp only [List.map_toArray, List.map_cons, List.map_nil]); first | done | rfl | (simp only [List.length_drop, List.length_take]; rfl)) ?_; (with_reducible refine (span_Const.calls t278 t300 t301 _ A54.out).mono ?_); rintro e w72 ⟨rfl, hb⟩; refine ⟨_, rfl, ?_⟩; have n0_ := Aside0.mk (Kd.R_below (by (with_reducible repeat (first | apply Kd.R_alloc | apply Kd.R_drewN | apply Kd.R_drew)); exact HO_59.out) hb); have n1_ := Aside0.mk (blk_below (g := gb274) (o := .cells #[.int .u64 a1_0, .int .u64 a1_1, .int .u64 a1_2, .int .u64 a1_3] 63 (0, 0)) (by (with_reducible repeat (first | apply bN | apply bD | apply bA)); exact BK274.out) hb); have n2_ := Aside0.mk (blk_below (g := gb275) (o := .cells #[.int .u64 a2_0, .int .u64 a2_1] 26 (0, 0)) (by (with_reducible repeat (first | apply bN | apply bD | apply bA)); exact BK275.out) hb); have n3_ := Aside0.mk (blk_below (g := gb294) (o := .cells #[.int .u64 t291, .int .u64 t292] 58 (0, 0)) (by (with_reducible repeat (first | apply bN | apply bD | apply bA)); exact BK294.out) hb); have n4_ := Aside0.mk (below_step (by repeat (first | (with_reducible first | exact HB.out | apply lA | apply lN | apply lD | refine lS ?_ ‹_›) | exact HB.out)) hb); clear HO_59; clear BK274; clear BK275; clear BK294; clear HB; have HO_59 := n0_; have BK274 := n1_; have BK275 := n2_; have BK294 := n3_; have HB := n4_; clear n0_ n1_ n2_ n3_ n4_; (try clear hb); (try clear hb2); (try clear hk); (try clear hi)) | ((with_reducible refine gate_callee (f := 32) rfl ?_); refine goesL_ (some 91) rfl rfl Try.func32 (by kernel_rfl) rfl #[.int .i64 a0, .bool true, .agg #[.int .u64 t298, .int .u64 t299], .agg #[.int .u64 t300, .int .u64 t301]] rfl (by (try simp only [List.map_toArray, List.map_cons, List.map_nil]); first | done | rfl | (simp only [List.length_drop, List.length_take]; rfl)) ?_; (with_reducible refine (span_Do.calls k2 a0 true t298 t299 t300 t301 t302 t303 t304 _ A55.out).mono ?_); rintro e w73 ⟨rfl, hb⟩; refine ⟨_, rfl, ?_⟩; have n0_ := Aside0.mk (Kd.R_below (by (with_reducible repeat (first | apply Kd.R_alloc | apply Kd.R_drewN | apply Kd.R_drew)); exact HO_59.out) hb); have n1_ := Aside0.mk (blk_below (g := gb274) (o := .cells #[.int .u64 a1_0, .int .u64 a1_1, .int .u64 a1_2, .int .u64 a1_3] 63 (0, 0)) (by (with_reducible repeat (first | apply bN | apply bD | apply bA)); exact BK274.out) hb); have n2_ := Aside0.mk (blk_below (g := gb275) (o := .cells #[.int .u64 a2_0, .int .u64 a2_1] 26 (0, 0)) (by (with_reducible repeat (first | apply bN | apply bD | apply bA)); exact BK275.out) hb); have n3_ := Aside0.mk (blk_below (g := gb294) (o := .cells #[.int .u64 t291, .int .u64 t292] 58 (0, 0)) (by (with_reducible repeat (first | apply bN | apply bD | apply bA)); exact BK294.out) hb); have n4_ := Aside0.mk (below_step (by repeat (first | (with_reducible first | exact HB.out | apply lA | apply lN | apply lD | refine lS ?_ ‹_›) | exact HB.out)) hb); clear HO_59; clear BK274; clear BK275; clear BK294; clear HB; have HO_59 := n0_; have BK274 := n1_; have BK275 := n2_; have BK294 := n3_; have HB := n4_; clear n0_ n1_ n2_ n3_ n4_; (try clear hb); (try clear hb2); (try clear hk); (try clear hi)) | ((with_reducible refine gate_dst (N := 15) rfl ?_); refine box_event ?hg (N := 15) ?hd (cs := #[.int .u64 0, .int .u64 0]) (t := 58) ?hr ?_; (case hd => rfl); (case hg => rfl); (case hr => first | (go_simp; done) | (go_simp; rfl)); intro gb305 hg w74 hbox hb; have n0_ := Aside0.mk (Kd.R_below (by (with_reducible repeat (first | apply Kd.R_alloc | apply Kd.R_drewN | apply Kd.R_drew)); exact HO_59.out) hb); have n1_ := Aside0.mk (blk_below (g := gb274) (o := .cells #[.int .u64 a1_0, .int .u64 a1_1, .int .u64 a1_2, .int .u64 a1_3] 63 (0, 0)) (by (with_reducible repeat (first | apply bN | apply bD | apply bA)); exact BK274.out) hb); have n2_ := Aside0.mk (blk_below (g := gb275) (o := .cells #[.int .u64 a2_0, .int .u64 a2_1] 26 (0, 0)) (by (with_reducible repeat (first | apply bN | apply bD | apply bA)); exact BK275.out) hb); have n3_ := Aside0.mk (blk_below (g := gb294) (o := .cells #[.int .u64 t291, .int .u64 t292] 58 (0, 0)) (by (with_reducible repeat (first | apply bN | apply bD | apply bA)); exact BK294.out) hb); have n4_ := Aside0.mk (below_step (by repeat (first | (with_reducible first | exact HB.out | apply lA | apply lN | apply lD | refine lS ?_ ‹_›) | exact HB.out)) hb); have n5_ := Aside0.mk (hbox); have n6_ := Aside0.mk ((by rw [hg]; exact (below_size (by repeat (first | (with_reducible first | exact HB.out | apply lA | apply lN | apply lD | refine lS ?_ ‹_›) | exact HB.out))) : w.heap.size ≤ gb305)); have n7_ := n6_; have n8_ := Aside0.mk ((by rw [hg]; exact Nat.ne_of_lt (blk_lt (g := gb274) (o := .cells #[.int .u64 a1_0, .int .u64 a1_1, .int .u64 a1_2, .int .u64 a1_3] 63 (0, 0)) (by (with_reducible repeat (first | apply bN | apply bD | apply bA)); exact BK274.out)) : gb274 ≠ gb305)); have n9_ := sy n8_; have n10_ := Aside0.mk ((by rw [hg]; exact Nat.ne_of_lt (blk_lt (g := gb275) (o := .cells #[.int .u64 a2_0, .int .u64 a2_1] 26 (0, 0)) (by (with_reducible repeat (first | apply bN | apply bD | apply bA)); exact BK275.out)) : gb275 ≠ gb305)); have n11_ := sy n10_; have n12_ := Aside0.mk ((by rw [hg]; exact Nat.ne_of_lt (blk_lt (g := gb294) (o := .cells #[.int .u64 t291, .int .u64 t292] 58 (0, 0)) (by (with_reducible repeat (first | apply bN | apply bD | apply bA)); exact BK294.out)) : gb294 ≠ gb305)); have n13_ := sy n12_; clear HO_59; clear BK274; clear BK275; clear BK294; clear HB; have HO_59 := n0_; have BK274 := n1_; have BK275 := n2_; have BK294 := n3_; have HB := n4_; have BK305 := n5_; have GW305 := n6_; have GE305 := n7_; have NB274_305 := n8_; have NB305_274 := n9_; have NB275_305 := n10_; have NB305_275 := n11_; have NB294_305 := n12_; have NB305_294 := n13_; clear n0_ n1_ n2_ n3_ n4_ n5_ n6_ n7_ n8_ n9_ n10_ n11_ n12_ n13_; clear hb hbox hg; have hnb75 := NB305_274.out; have hnc75 := NB274_305.out; have hnb76 := NB305_275.out; have hnc76 := NB275_305.out; have hnb77 := NB305_294.out; have hnc77 := NB294_305.out; have hcz78_0 : w74.cell? ⟨gb305, 0, none⟩ = some (.int .u64 0) := (blk_cell BK305.out 0).trans rfl; have hcz78_1 : w74.cell? ⟨gb305, 1, none⟩ = some (.int .u64 0) := (blk_cell BK305.out 1).trans rfl; have hfz78_0 := blk_frozen BK305.out 0; have hfz78_1 := blk_frozen BK305.out 1; have hcz79_0 : w74.cell? ⟨gb294, 0, none⟩ = some (.int .u64 t291) := (blk_cell BK294.out 0).trans rfl; have hcz79_1 : w74.cell? ⟨gb294, 1, none⟩ = some (.int .u64 t292) := (blk_cell BK294.out 1).trans rfl; have hfz79_0 := blk_frozen BK294.out 0; have hfz79_1 := blk_frozen BK294.out 1))
                 go_roundg k2
                 case measure => have := HJ7.out; have := HK2.out; omega
                 case rel => exact ⟨(wrap64 (x61_2 + 1)), (by first | rfl | (simp; done) | (simp [*]; done)), H', ⟨by have := HJ7.out; have := HK2.out; omega⟩, ⟨by (with_reducible repeat (first | apply Kd.R_alloc | apply Kd.R_drewN | apply Kd.R_drew)); exact Kd.R_mono (Kd.R_far (p := ⟨gb305, 1, none⟩) (Kd.R_far (p := ⟨gb305, 0, none⟩) (Kd.R_types HO_59.out BK305.out (by decide)) (fun _ hk => hk.2) (.int .u64 t302)) (fun _ hk => hk.2) (.int .u64 t303)) (fun _ hk => trivial)⟩, ⟨by (with_reducible repeat (first | apply bN | apply bD | apply bA)); refine blk_far ?_ NB274_305.out _; (with_reducible repeat (first | apply bN | apply bD | apply bA)); refine blk_far ?_ NB274_305.out _; (with_reducible repeat (first | apply bN | apply bD | apply bA)); exact BK274.out⟩, ⟨by (with_reducible repeat (first | apply bN | apply bD | apply bA)); refine blk_far ?_ NB275_305.out _; (with_reducible repeat (first | apply bN | apply bD | apply bA)); refine blk_far ?_ NB275_305.out _; (with_reducible repeat (first | apply bN | apply bD | apply bA)); exact BK275.out⟩, ⟨by repeat (first | (with_reducible first | exact HB.out | apply lA | apply lN | apply lD | refine lS ?_ ‹_›) | exact HB.out)⟩⟩
                ·
                 replace c63 := Bool.eq_false_iff.mpr c63
                 subst c63
                 have H1 : (if (t292 / 4294967296) = 0 then (posternlaw15_SpanSound.l0 k2 a0 t277 t278 y287 (y287.length : Int) (wrap64 (x61_2 + 1)) a1_0 a1_1 a1_2 a1_3) else (some false)) = some r := by rw [if_neg (show ¬ (false = true) by decide)] at H; exact H
                 clear H; have H := H1; clear H1
                 by_cases c80 : (t292 / 4294967296) = 0
                 ·
                  rw [if_pos c80] at H
                  have c80b0 : ((t292 / 4294967296) == 0) = true := beq_iff_eq.mpr c80; have c80b1 : ((t292 / 4294967296) != 0) = false := bne_eq_false_iff_eq.mpr c80; clear c80; have H' := Aside0.mk H; clear H
                  have p290 : 0 ≤ (x61_2 : Int) := of_decide_eq_true (by first | (with_reducible assumption) | assumption)
                  have q290 : x61_2 < (y287.length : Int) := of_decide_eq_true (by first | (with_reducible assumption) | assumption)
                  obtain ⟨ad290, e290, hx290_0⟩ := Kd.at_bool (Kd.R_reads' HO_59.out).2.2 x61_2 p290 q290
                  (try rw [← Nbq62.out] at hx290_0); (try (have z_ := A6.out; rw [← Nbq62.out] at z_; replace A6 := Aside0.mk z_; clear z_))
                  (try (have z_ := A7.out; rw [← Nbq62.out] at z_; replace A7 := Aside0.mk z_; clear z_)); (try (have z_ := A15.out; rw [← Nbq62.out] at z_; replace A15 := Aside0.mk z_; clear z_)); (try (have z_ := A17.out; rw [← Nbq62.out] at z_; replace A17 := Aside0.mk z_; clear z_)); (try (have z_ := A18.out; rw [← Nbq62.out] at z_; replace A18 := Aside0.mk z_; clear z_)); (try (have z_ := A24.out; rw [← Nbq62.out] at z_; replace A24 := Aside0.mk z_; clear z_)); (try (have z_ := A25.out; rw [← Nbq62.out] at z_; replace A25 := Aside0.mk z_; clear z_)); (try (have z_ := A27.out; rw [← Nbq62.out] at z_; replace A27 := Aside0.mk z_; clear z_)); (try (have z_ := A50.out; rw [← Nbq62.out] at z_; replace A50 := Aside0.mk z_; clear z_)); (try (have z_ := A51.out; rw [← Nbq62.out] at z_; replace A51 := Aside0.mk z_; clear z_)); (try (have z_ := A52.out; rw [← Nbq62.out] at z_; replace A52 := Aside0.mk z_; clear z_)); (try (have z_ := A53.out; rw [← Nbq62.out] at z_; replace A53 := Aside0.mk z_; clear z_)); (try (have z_ := A54.out; rw [← Nbq62.out] at z_; replace A54 := Aside0.mk z_; clear z_)); (try (have z_ := A55.out; rw [← Nbq62.out] at z_; replace A55 := Aside0.mk z_; clear z_))
                  cases e290
                  replace p290 := eq_true p290
                  replace q290 := eq_true q290
                  have hnb81 := NB274_275.out; have hnc81 := NB275_274.out; have hcz82_0 : wr.cell? ⟨gb274, 0, none⟩ = some (.int .u64 a1_0) := (blk_cell BK274.out 0).trans rfl; have hcz82_1 : wr.cell? ⟨gb274, 1, none⟩ = some (.int .u64 a1_1) := (blk_cell BK274.out 1).trans rfl; have hcz82_2 : wr.cell? ⟨gb274, 2, none⟩ = some (.int .u64 a1_2) := (blk_cell BK274.out 2).trans rfl; have hcz82_3 : wr.cell? ⟨gb274, 3, none⟩ = some (.int .u64 a1_3) := (blk_cell BK274.out 3).trans rfl; have hfz82_0 := blk_frozen BK274.out 0; have hfz82_1 := blk_frozen BK274.out 1; have hfz82_2 := blk_frozen BK274.out 2; have hfz82_3 := blk_frozen BK274.out 3
                  go_wp2_with (first | ((with_reducible refine gate_callee (f := 32) rfl ?_); refine goesL_ (some 72) rfl rfl Try.func32 (by kernel_rfl) rfl #[.int .i64 a0, .bool false, .agg #[.int .u64 a1_0, .int .u64 a1_1], .agg #[.int .u64 a1_2, .int .u64 a1_3]] rfl (by (try simp only [List.map_toArray, List.map_cons, List.map_nil]); first | done | rfl | (simp only [List.length_drop, List.length_take]; rfl)) ?_; (with_reducible refine (span_Do.calls k2 a0 false a1_0 a1_1 a1_2 a1_3 t291 t292 t293 _ A50.out).mono ?_); rintro e w83 ⟨rfl, hb⟩; refine ⟨_, rfl, ?_⟩; have n0_ := Aside0.mk (Kd.R_below (by (with_reducible repeat (first | apply Kd.R_alloc | apply Kd.R_drewN | apply Kd.R_drew)); exact HO_59.out) hb); have n1_ := Aside0.mk (blk_below (g := gb274) (o := .cells #[.int .u64 a1_0, .int .u64 a1_1, .int .u64 a1_2, .int .u64 a1_3] 63 (0, 0)) (by (with_reducible repeat (first | apply bN | apply bD | apply bA)); exact BK274.out) hb); have n2_ := Aside0.mk (blk_below (g := gb275) (o := .cells #[.int .u64 a2_0, .int .u64 a2_1] 26 (0, 0)) (by (with_reducible repeat (first | apply bN | apply bD | apply bA)); exact BK275.out) hb); have n3_ := Aside0.mk (below_step (by repeat (first | (with_reducible first | exact HB.out | apply lA | apply lN | apply lD | refine lS ?_ ‹_›) | exact HB.out)) hb); clear HO_59; clear BK274; clear BK275; clear HB; have HO_59 := n0_; have BK274 := n1_; have BK275 := n2_; have HB := n3_; clear n0_ n1_ n2_ n3_; (try clear hb); (try clear hb2); (try clear hk); (try clear hi)) | ((with_reducible refine gate_dst (N := 11) rfl ?_); refine box_event ?hg (N := 11) ?hd (cs := #[.int .u64 0, .int .u64 0]) (t := 58) ?hr ?_; (case hd => rfl); (case hg => rfl); (case hr => first | (go_simp; done) | (go_simp; rfl)); intro gb294 hg w84 hbox hb; have n0_ := Aside0.mk (Kd.R_below (by (with_reducible repeat (first | apply Kd.R_alloc | apply Kd.R_drewN | apply Kd.R_drew)); exact HO_59.out) hb); have n1_ := Aside0.mk (blk_below (g := gb274) (o := .cells #[.int .u64 a1_0, .int .u64 a1_1, .int .u64 a1_2, .int .u64 a1_3] 63 (0, 0)) (by (with_reducible repeat (first | apply bN | apply bD | apply bA)); exact BK274.out) hb); have n2_ := Aside0.mk (blk_below (g := gb275) (o := .cells #[.int .u64 a2_0, .int .u64 a2_1] 26 (0, 0)) (by (with_reducible repeat (first | apply bN | apply bD | apply bA)); exact BK275.out) hb); have n3_ := Aside0.mk (below_step (by repeat (first | (with_reducible first | exact HB.out | apply lA | apply lN | apply lD | refine lS ?_ ‹_›) | exact HB.out)) hb); have n4_ := Aside0.mk (hbox); have n5_ := Aside0.mk ((by rw [hg]; exact (below_size (by repeat (first | (with_reducible first | exact HB.out | apply lA | apply lN | apply lD | refine lS ?_ ‹_›) | exact HB.out))) : w.heap.size ≤ gb294)); have n6_ := n5_; have n7_ := Aside0.mk ((by rw [hg]; exact Nat.ne_of_lt (blk_lt (g := gb274) (o := .cells #[.int .u64 a1_0, .int .u64 a1_1, .int .u64 a1_2, .int .u64 a1_3] 63 (0, 0)) (by (with_reducible repeat (first | apply bN | apply bD | apply bA)); exact BK274.out)) : gb274 ≠ gb294)); have n8_ := sy n7_; have n9_ := Aside0.mk ((by rw [hg]; exact Nat.ne_of_lt (blk_lt (g := gb275) (o := .cells #[.int .u64 a2_0, .int .u64 a2_1] 26 (0, 0)) (by (with_reducible repeat (first | apply bN | apply bD | apply bA)); exact BK275.out)) : gb275 ≠ gb294)); have n10_ := sy n9_; clear HO_59; clear BK274; clear BK275; clear HB; have HO_59 := n0_; have BK274 := n1_; have BK275 := n2_; have HB := n3_; have BK294 := n4_; have GW294 := n5_; have GE294 := n6_; have NB274_294 := n7_; have NB294_274 := n8_; have NB275_294 := n9_; have NB294_275 := n10_; clear n0_ n1_ n2_ n3_ n4_ n5_ n6_ n7_ n8_ n9_ n10_; clear hb hbox hg; have hnb85 := NB294_274.out; have hnc85 := NB274_294.out; have hnb86 := NB294_275.out; have hnc86 := NB275_294.out; have hcz87_0 : w84.cell? ⟨gb294, 0, none⟩ = some (.int .u64 0) := (blk_cell BK294.out 0).trans rfl; have hcz87_1 : w84.cell? ⟨gb294, 1, none⟩ = some (.int .u64 0) := (blk_cell BK294.out 1).trans rfl; have hfz87_0 := blk_frozen BK294.out 0; have hfz87_1 := blk_frozen BK294.out 1) | ((with_reducible refine gate_callee (f := 35) rfl ?_); refine goesL_ (some 78) rfl rfl Try.func35 (by kernel_rfl) rfl #[.bool false] rfl (by (try simp only [List.map_toArray, List.map_cons, List.map_nil]); first | done | rfl | (simp only [List.length_drop, List.length_take]; rfl)) ?_; (with_reducible refine (posternlaw15_size.calls false t295 _ A51.out).mono ?_); rintro e w' ⟨rfl, ⟨nd, rfl⟩⟩; refine ⟨_, rfl, ?_⟩) | ((with_reducible refine gate_callee (f := 15) rfl ?_); refine goesL_ (some 81) rfl rfl Try.func15 (by kernel_rfl) rfl #[.int .i64 a0, .int .i64 t295, .int .u64 t277, .int .u64 t278] rfl (by (try simp only [List.map_toArray, List.map_cons, List.map_nil]); first | done | rfl | (simp only [List.length_drop, List.length_take]; rfl)) ?_; (with_reducible refine (posternref05_Do.calls k2 a0 t295 t277 t278 t296 true _ A52.out).mono ?_); rintro e w' ⟨rfl, ⟨nd, rfl⟩⟩; refine ⟨_, rfl, ?_⟩) | ((with_reducible refine gate_callee (f := 37) rfl ?_); refine goesL_ (some 88) rfl rfl Try.func37 (by kernel_rfl) rfl #[.int .u64 t277] rfl (by (try simp only [List.map_toArray, List.map_cons, List.map_nil]); first | done | rfl | (simp only [List.length_drop, List.length_take]; rfl)) ?_; (with_reducible refine (span_Const.calls t277 t298 t299 _ A53.out).mono ?_); rintro e w88 ⟨rfl, hb⟩; refine ⟨_, rfl, ?_⟩; have n0_ := Aside0.mk (Kd.R_below (by (with_reducible repeat (first | apply Kd.R_alloc | apply Kd.R_drewN | apply Kd.R_drew)); exact (Kd.R_mono (Kd.R_far (p := ⟨gb294, 1, none⟩) (Kd.R_far (p := ⟨gb294, 0, none⟩) (Kd.R_types HO_59.out BK294.out (by decide)) (fun _ hk => hk.2) (.int .u64 t291)) (fun _ hk => hk.2) (.int .u64 t292)) (fun _ h_ => h_.1))) hb); have n1_ := Aside0.mk (blk_below (g := gb274) (o := .cells #[.int .u64 a1_0, .int .u64 a1_1, .int .u64 a1_2, .int .u64 a1_3] 63 (0, 0)) (by (with_reducible repeat (first | apply bN | apply bD | apply bA)); refine blk_far ?_ NB274_294.out _; (with_reducible repeat (first | apply bN | apply bD | apply bA)); refine blk_far ?_ NB274_294.out _; (with_reducible repeat (first | apply bN | apply bD | apply bA)); exact BK274.out) hb); have n2_ := Aside0.mk (blk_below (g := gb275) (o := .cells #[.int .u64 a2_0, .int .u64 a2_1] 26 (0, 0)) (by (with_reducible repeat (first | apply bN | apply bD | apply bA)); refine blk_far ?_ NB275_294.out _; (with_reducible repeat (first | apply bN | apply bD | apply bA)); refine blk_far ?_ NB275_294.out _; (with_reducible repeat (first | apply bN | apply bD | apply bA)); exact BK275.out) hb); have n3_ := Aside0.mk (blk_below (g := gb294) (o := .cells #[.int .u64 t291, .int .u64 t292] 58 (0, 0)) (by (with_reducible repeat (first | apply bN | apply bD | apply bA)); refine blk_put (cs := #[.int .u64 t291, .int .u64 0]) ?_ 1 _ rfl; (with_reducible repeat (first | apply bN | apply bD | apply bA)); refine blk_put (cs := #[.int .u64 0, .int .u64 0]) ?_ 0 _ rfl; (with_reducible repeat (first | apply bN | apply bD | apply bA)); exact BK294.out) hb); have n4_ := Aside0.mk (below_step (by repeat (first | (with_reducible first | exact HB.out | apply lA | apply lN | apply lD | refine lS ?_ ‹_›) | exact HB.out)) hb); clear HO_59; clear BK274; clear BK275; clear BK294; clear HB; have HO_59 := n0_; have BK274 := n1_; have BK275 := n2_; have BK294 := n3_; have HB := n4_; clear n0_ n1_ n2_ n3_ n4_; (try clear hb); (try clear hb2); (try clear hk); (try clear hi)) | ((with_reducible refine gate_callee (f := 37) rfl ?_); refine goesL_ (some 90) rfl rfl Try.func37 (by kernel_rfl) rfl #[.int .u64 t278] rfl (by (try simp only [List.map_toArray, List.map_cons, List.map_nil]); first | done | rfl | (simp only [List.length_drop, List.length_take]; rfl)) ?_; (with_reducible refine (span_Const.calls t278 t300 t301 _ A54.out).mono ?_); rintro e w89 ⟨rfl, hb⟩; refine ⟨_, rfl, ?_⟩; have n0_ := Aside0.mk (Kd.R_below (by (with_reducible repeat (first | apply Kd.R_alloc | apply Kd.R_drewN | apply Kd.R_drew)); exact HO_59.out) hb); have n1_ := Aside0.mk (blk_below (g := gb274) (o := .cells #[.int .u64 a1_0, .int .u64 a1_1, .int .u64 a1_2, .int .u64 a1_3] 63 (0, 0)) (by (with_reducible repeat (first | apply bN | apply bD | apply bA)); exact BK274.out) hb); have n2_ := Aside0.mk (blk_below (g := gb275) (o := .cells #[.int .u64 a2_0, .int .u64 a2_1] 26 (0, 0)) (by (with_reducible repeat (first | apply bN | apply bD | apply bA)); exact BK275.out) hb); have n3_ := Aside0.mk (blk_below (g := gb294) (o := .cells #[.int .u64 t291, .int .u64 t292] 58 (0, 0)) (by (with_reducible repeat (first | apply bN | apply bD | apply bA)); exact BK294.out) hb); have n4_ := Aside0.mk (below_step (by repeat (first | (with_reducible first | exact HB.out | apply lA | apply lN | apply lD | refine lS ?_ ‹_›) | exact HB.out)) hb); clear HO_59; clear BK274; clear BK275; clear BK294; clear HB; have HO_59 := n0_; have BK274 := n1_; have BK275 := n2_; have BK294 := n3_; have HB := n4_; clear n0_ n1_ n2_ n3_ n4_; (try clear hb); (try clear hb2); (try clear hk); (try clear hi)) | ((with_reducible refine gate_callee (f := 32) rfl ?_); refine goesL_ (some 91) rfl rfl Try.func32 (by kernel_rfl) rfl #[.int .i64 a0, .bool false, .agg #[.int .u64 t298, .int .u64 t299], .agg #[.int .u64 t300, .int .u64 t301]] rfl (by (try simp only [List.map_toArray, List.map_cons, List.map_nil]); first | done | rfl | (simp only [List.length_drop, List.length_take]; rfl)) ?_; (with_reducible refine (span_Do.calls k2 a0 false t298 t299 t300 t301 t302 t303 t304 _ A55.out).mono ?_); rintro e w90 ⟨rfl, hb⟩; refine ⟨_, rfl, ?_⟩; have n0_ := Aside0.mk (Kd.R_below (by (with_reducible repeat (first | apply Kd.R_alloc | apply Kd.R_drewN | apply Kd.R_drew)); exact HO_59.out) hb); have n1_ := Aside0.mk (blk_below (g := gb274) (o := .cells #[.int .u64 a1_0, .int .u64 a1_1, .int .u64 a1_2, .int .u64 a1_3] 63 (0, 0)) (by (with_reducible repeat (first | apply bN | apply bD | apply bA)); exact BK274.out) hb); have n2_ := Aside0.mk (blk_below (g := gb275) (o := .cells #[.int .u64 a2_0, .int .u64 a2_1] 26 (0, 0)) (by (with_reducible repeat (first | apply bN | apply bD | apply bA)); exact BK275.out) hb); have n3_ := Aside0.mk (blk_below (g := gb294) (o := .cells #[.int .u64 t291, .int .u64 t292] 58 (0, 0)) (by (with_reducible repeat (first | apply bN | apply bD | apply bA)); exact BK294.out) hb); have n4_ := Aside0.mk (below_step (by repeat (first | (with_reducible first | exact HB.out | apply lA | apply lN | apply lD | refine lS ?_ ‹_›) | exact HB.out)) hb); clear HO_59; clear BK274; clear BK275; clear BK294; clear HB; have HO_59 := n0_; have BK274 := n1_; have BK275 := n2_; have BK294 := n3_; have HB := n4_; clear n0_ n1_ n2_ n3_ n4_; (try clear hb); (try clear hb2); (try clear hk); (try clear hi)) | ((with_reducible refine gate_dst (N := 15) rfl ?_); refine box_event ?hg (N := 15) ?hd (cs := #[.int .u64 0, .int .u64 0]) (t := 58) ?hr ?_; (case hd => rfl); (case hg => rfl); (case hr => first | (go_simp; done) | (go_simp; rfl)); intro gb305 hg w91 hbox hb; have n0_ := Aside0.mk (Kd.R_below (by (with_reducible repeat (first | apply Kd.R_alloc | apply Kd.R_drewN | apply Kd.R_drew)); exact HO_59.out) hb); have n1_ := Aside0.mk (blk_below (g := gb274) (o := .cells #[.int .u64 a1_0, .int .u64 a1_1, .int .u64 a1_2, .int .u64 a1_3] 63 (0, 0)) (by (with_reducible repeat (first | apply bN | apply bD | apply bA)); exact BK274.out) hb); have n2_ := Aside0.mk (blk_below (g := gb275) (o := .cells #[.int .u64 a2_0, .int .u64 a2_1] 26 (0, 0)) (by (with_reducible repeat (first | apply bN | apply bD | apply bA)); exact BK275.out) hb); have n3_ := Aside0.mk (blk_below (g := gb294) (o := .cells #[.int .u64 t291, .int .u64 t292] 58 (0, 0)) (by (with_reducible repeat (first | apply bN | apply bD | apply bA)); exact BK294.out) hb); have n4_ := Aside0.mk (below_step (by repeat (first | (with_reducible first | exact HB.out | apply lA | apply lN | apply lD | refine lS ?_ ‹_›) | exact HB.out)) hb); have n5_ := Aside0.mk (hbox); have n6_ := Aside0.mk ((by rw [hg]; exact (below_size (by repeat (first | (with_reducible first | exact HB.out | apply lA | apply lN | apply lD | refine lS ?_ ‹_›) | exact HB.out))) : w.heap.size ≤ gb305)); have n7_ := n6_; have n8_ := Aside0.mk ((by rw [hg]; exact Nat.ne_of_lt (blk_lt (g := gb274) (o := .cells #[.int .u64 a1_0, .int .u64 a1_1, .int .u64 a1_2, .int .u64 a1_3] 63 (0, 0)) (by (with_reducible repeat (first | apply bN | apply bD | apply bA)); exact BK274.out)) : gb274 ≠ gb305)); have n9_ := sy n8_; have n10_ := Aside0.mk ((by rw [hg]; exact Nat.ne_of_lt (blk_lt (g := gb275) (o := .cells #[.int .u64 a2_0, .int .u64 a2_1] 26 (0, 0)) (by (with_reducible repeat (first | apply bN | apply bD | apply bA)); exact BK275.out)) : gb275 ≠ gb305)); have n11_ := sy n10_; have n12_ := Aside0.mk ((by rw [hg]; exact Nat.ne_of_lt (blk_lt (g := gb294) (o := .cells #[.int .u64 t291, .int .u64 t292] 58 (0, 0)) (by (with_reducible repeat (first | apply bN | apply bD | apply bA)); exact BK294.out)) : gb294 ≠ gb305)); have n13_ := sy n12_; clear HO_59; clear BK274; clear BK275; clear BK294; clear HB; have HO_59 := n0_; have BK274 := n1_; have BK275 := n2_; have BK294 := n3_; have HB := n4_; have BK305 := n5_; have GW305 := n6_; have GE305 := n7_; have NB274_305 := n8_; have NB305_274 := n9_; have NB275_305 := n10_; have NB305_275 := n11_; have NB294_305 := n12_; have NB305_294 := n13_; clear n0_ n1_ n2_ n3_ n4_ n5_ n6_ n7_ n8_ n9_ n10_ n11_ n12_ n13_; clear hb hbox hg; have hnb92 := NB305_274.out; have hnc92 := NB274_305.out; have hnb93 := NB305_275.out; have hnc93 := NB275_305.out; have hnb94 := NB305_294.out; have hnc94 := NB294_305.out; have hcz95_0 : w91.cell? ⟨gb305, 0, none⟩ = some (.int .u64 0) := (blk_cell BK305.out 0).trans rfl; have hcz95_1 : w91.cell? ⟨gb305, 1, none⟩ = some (.int .u64 0) := (blk_cell BK305.out 1).trans rfl; have hfz95_0 := blk_frozen BK305.out 0; have hfz95_1 := blk_frozen BK305.out 1; have hcz96_0 : w91.cell? ⟨gb294, 0, none⟩ = some (.int .u64 t291) := (blk_cell BK294.out 0).trans rfl; have hcz96_1 : w91.cell? ⟨gb294, 1, none⟩ = some (.int .u64 t292) := (blk_cell BK294.out 1).trans rfl; have hfz96_0 := blk_frozen BK294.out 0; have hfz96_1 := blk_frozen BK294.out 1))
                  go_roundg k2
                  case measure => have := HJ7.out; have := HK2.out; omega
                  case rel => exact ⟨(wrap64 (x61_2 + 1)), (by first | rfl | (simp; done) | (simp [*]; done)), H', ⟨by have := HJ7.out; have := HK2.out; omega⟩, ⟨by (with_reducible repeat (first | apply Kd.R_alloc | apply Kd.R_drewN | apply Kd.R_drew)); exact Kd.R_mono (Kd.R_far (p := ⟨gb305, 1, none⟩) (Kd.R_far (p := ⟨gb305, 0, none⟩) (Kd.R_types HO_59.out BK305.out (by decide)) (fun _ hk => hk.2) (.int .u64 t302)) (fun _ hk => hk.2) (.int .u64 t303)) (fun _ hk => trivial)⟩, ⟨by (with_reducible repeat (first | apply bN | apply bD | apply bA)); refine blk_far ?_ NB274_305.out _; (with_reducible repeat (first | apply bN | apply bD | apply bA)); refine blk_far ?_ NB274_305.out _; (with_reducible repeat (first | apply bN | apply bD | apply bA)); exact BK274.out⟩, ⟨by (with_reducible repeat (first | apply bN | apply bD | apply bA)); refine blk_far ?_ NB275_305.out _; (with_reducible repeat (first | apply bN | apply bD | apply bA)); refine blk_far ?_ NB275_305.out _; (with_reducible repeat (first | apply bN | apply bD | apply bA)); exact BK275.out⟩, ⟨by repeat (first | (with_reducible first | exact HB.out | apply lA | apply lN | apply lD | refine lS ?_ ‹_›) | exact HB.out)⟩⟩
                 ·
                  rw [if_neg c80] at H
                  have c80b0 : ((t292 / 4294967296) == 0) = false := beq_eq_false_iff_ne.mpr c80; have c80b1 : ((t292 / 4294967296) != 0) = true := bne_iff_ne.mpr c80
                  exact absurd (H.trans (congrArg some hr_.out)) (by simp)
            ·
             rw [if_neg c58] at H
             have c58b0 : (t304 == 0) = false := beq_eq_false_iff_ne.mpr c58; have c58b1 : (t304 != 0) = true := bne_iff_ne.mpr c58
             exact absurd (H.trans (congrArg some hr_.out)) (by simp)
           ·
            rw [if_neg c57] at H
            have c57b0 : (t293 == 0) = false := beq_eq_false_iff_ne.mpr c57; have c57b1 : (t293 != 0) = true := bne_iff_ne.mpr c57
            exact absurd (H.trans (congrArg some hr_.out)) (by simp)
          ·
           replace c56 := Bool.eq_false_iff.mpr c56
           subst c56
           have H1 : (if t293 = 2 then (if t304 = 2 then (posternlaw15_SpanSound.j2 k2 a0 t277 t278 y287 (y287.length : Int) x61_2 (!(t291 == 0) || (!(t292 == 0))) a1_0 a1_1 a1_2 a1_3) else (posternlaw15_SpanSound.j2 k2 a0 t277 t278 y287 (y287.length : Int) x61_2 true a1_0 a1_1 a1_2 a1_3)) else (posternlaw15_SpanSound.j2 k2 a0 t277 t278 y287 (y287.length : Int) x61_2 true a1_0 a1_1 a1_2 a1_3)) = some r := by rw [if_neg (show ¬ (false = true) by decide)] at H; exact H
           clear H; have H := H1; clear H1
           have HC97 := Aside0.mk H
           clear H
           have p290 : 0 ≤ (x61_2 : Int) := of_decide_eq_true (by first | (with_reducible assumption) | assumption)
           have q290 : x61_2 < (y287.length : Int) := of_decide_eq_true (by first | (with_reducible assumption) | assumption)
           obtain ⟨ad290, e290, hx290_0⟩ := Kd.at_bool (Kd.R_reads' HO_59.out).2.2 x61_2 p290 q290
           cases e290
           replace p290 := eq_true p290
           replace q290 := eq_true q290
           have hnb98 := NB274_275.out; have hnc98 := NB275_274.out; have hcz99_0 : wr.cell? ⟨gb274, 0, none⟩ = some (.int .u64 a1_0) := (blk_cell BK274.out 0).trans rfl; have hcz99_1 : wr.cell? ⟨gb274, 1, none⟩ = some (.int .u64 a1_1) := (blk_cell BK274.out 1).trans rfl; have hcz99_2 : wr.cell? ⟨gb274, 2, none⟩ = some (.int .u64 a1_2) := (blk_cell BK274.out 2).trans rfl; have hcz99_3 : wr.cell? ⟨gb274, 3, none⟩ = some (.int .u64 a1_3) := (blk_cell BK274.out 3).trans rfl; have hfz99_0 := blk_frozen BK274.out 0; have hfz99_1 := blk_frozen BK274.out 1; have hfz99_2 := blk_frozen BK274.out 2; have hfz99_3 := blk_frozen BK274.out 3
           go_upto_region 13 with (first | ((with_reducible refine gate_callee (f := 32) rfl ?_); refine goesL_ (some 72) rfl rfl Try.func32 (by kernel_rfl) rfl #[.int .i64 a0, .bool (rdOf false y287 x61_2), .agg #[.int .u64 a1_0, .int .u64 a1_1], .agg #[.int .u64 a1_2, .int .u64 a1_3]] rfl (by (try simp only [List.map_toArray, List.map_cons, List.map_nil]); first | done | rfl | (simp only [List.length_drop, List.length_take]; rfl)) ?_; (with_reducible refine (span_Do.calls k2 a0 (rdOf false y287 x61_2) a1_0 a1_1 a1_2 a1_3 t291 t292 t293 _ A50.out).mono ?_); rintro e w100 ⟨rfl, hb⟩; refine ⟨_, rfl, ?_⟩; have n0_ := Aside0.mk (Kd.R_below (by (with_reducible repeat (first | apply Kd.R_alloc | apply Kd.R_drewN | apply Kd.R_drew)); exact HO_59.out) hb); have n1_ := Aside0.mk (blk_below (g := gb274) (o := .cells #[.int .u64 a1_0, .int .u64 a1_1, .int .u64 a1_2, .int .u64 a1_3] 63 (0, 0)) (by (with_reducible repeat (first | apply bN | apply bD | apply bA)); exact BK274.out) hb); have n2_ := Aside0.mk (blk_below (g := gb275) (o := .cells #[.int .u64 a2_0, .int .u64 a2_1] 26 (0, 0)) (by (with_reducible repeat (first | apply bN | apply bD | apply bA)); exact BK275.out) hb); have n3_ := Aside0.mk (below_step (by repeat (first | (with_reducible first | exact HB.out | apply lA | apply lN | apply lD | refine lS ?_ ‹_›) | exact HB.out)) hb); clear HO_59; clear BK274; clear BK275; clear HB; have HO_59 := n0_; have BK274 := n1_; have BK275 := n2_; have HB := n3_; clear n0_ n1_ n2_ n3_; (try clear hb); (try clear hb2); (try clear hk); (try clear hi)) | ((with_reducible refine gate_dst (N := 11) rfl ?_); refine box_event ?hg (N := 11) ?hd (cs := #[.int .u64 0, .int .u64 0]) (t := 58) ?hr ?_; (case hd => rfl); (case hg => rfl); (case hr => first | (go_simp; done) | (go_simp; rfl)); intro gb294 hg w101 hbox hb; have n0_ := Aside0.mk (Kd.R_below (by (with_reducible repeat (first | apply Kd.R_alloc | apply Kd.R_drewN | apply Kd.R_drew)); exact HO_59.out) hb); have n1_ := Aside0.mk (blk_below (g := gb274) (o := .cells #[.int .u64 a1_0, .int .u64 a1_1, .int .u64 a1_2, .int .u64 a1_3] 63 (0, 0)) (by (with_reducible repeat (first | apply bN | apply bD | apply bA)); exact BK274.out) hb); have n2_ := Aside0.mk (blk_below (g := gb275) (o := .cells #[.int .u64 a2_0, .int .u64 a2_1] 26 (0, 0)) (by (with_reducible repeat (first | apply bN | apply bD | apply bA)); exact BK275.out) hb); have n3_ := Aside0.mk (below_step (by repeat (first | (with_reducible first | exact HB.out | apply lA | apply lN | apply lD | refine lS ?_ ‹_›) | exact HB.out)) hb); have n4_ := Aside0.mk (hbox); have n5_ := Aside0.mk ((by rw [hg]; exact (below_size (by repeat (first | (with_reducible first | exact HB.out | apply lA | apply lN | apply lD | refine lS ?_ ‹_›) | exact HB.out))) : w.heap.size ≤ gb294)); have n6_ := n5_; have n7_ := Aside0.mk ((by rw [hg]; exact Nat.ne_of_lt (blk_lt (g := gb274) (o := .cells #[.int .u64 a1_0, .int .u64 a1_1, .int .u64 a1_2, .int .u64 a1_3] 63 (0, 0)) (by (with_reducible repeat (first | apply bN | apply bD | apply bA)); exact BK274.out)) : gb274 ≠ gb294)); have n8_ := sy n7_; have n9_ := Aside0.mk ((by rw [hg]; exact Nat.ne_of_lt (blk_lt (g := gb275) (o := .cells #[.int .u64 a2_0, .int .u64 a2_1] 26 (0, 0)) (by (with_reducible repeat (first | apply bN | apply bD | apply bA)); exact BK275.out)) : gb275 ≠ gb294)); have n10_ := sy n9_; clear HO_59; clear BK274; clear BK275; clear HB; have HO_59 := n0_; have BK274 := n1_; have BK275 := n2_; have HB := n3_; have BK294 := n4_; have GW294 := n5_; have GE294 := n6_; have NB274_294 := n7_; have NB294_274 := n8_; have NB275_294 := n9_; have NB294_275 := n10_; clear n0_ n1_ n2_ n3_ n4_ n5_ n6_ n7_ n8_ n9_ n10_; clear hb hbox hg; have hnb102 := NB294_274.out; have hnc102 := NB274_294.out; have hnb103 := NB294_275.out; have hnc103 := NB275_294.out; have hcz104_0 : w101.cell? ⟨gb294, 0, none⟩ = some (.int .u64 0) := (blk_cell BK294.out 0).trans rfl; have hcz104_1 : w101.cell? ⟨gb294, 1, none⟩ = some (.int .u64 0) := (blk_cell BK294.out 1).trans rfl; have hfz104_0 := blk_frozen BK294.out 0; have hfz104_1 := blk_frozen BK294.out 1) | ((with_reducible refine gate_callee (f := 35) rfl ?_); refine goesL_ (some 78) rfl rfl Try.func35 (by kernel_rfl) rfl #[.bool (rdOf false y287 x61_2)] rfl (by (try simp only [List.map_toArray, List.map_cons, List.map_nil]); first | done | rfl | (simp only [List.length_drop, List.length_take]; rfl)) ?_; (with_reducible refine (posternlaw15_size.calls (rdOf false y287 x61_2) t295 _ A51.out).mono ?_); rintro e w' ⟨rfl, ⟨nd, rfl⟩⟩; refine ⟨_, rfl, ?_⟩) | ((with_reducible refine gate_callee (f := 15) rfl ?_); refine goesL_ (some 81) rfl rfl Try.func15 (by kernel_rfl) rfl #[.int .i64 a0, .int .i64 t295, .int .u64 t277, .int .u64 t278] rfl (by (try simp only [List.map_toArray, List.map_cons, List.map_nil]); first | done | rfl | (simp only [List.length_drop, List.length_take]; rfl)) ?_; (with_reducible refine (posternref05_Do.calls k2 a0 t295 t277 t278 t296 false _ A52.out).mono ?_); rintro e w' ⟨rfl, ⟨nd, rfl⟩⟩; refine ⟨_, rfl, ?_⟩) | ((with_reducible refine gate_callee (f := 37) rfl ?_); refine goesL_ (some 88) rfl rfl Try.func37 (by kernel_rfl) rfl #[.int .u64 t277] rfl (by (try simp only [List.map_toArray, List.map_cons, List.map_nil]); first | done | rfl | (simp only [List.length_drop, List.length_take]; rfl)) ?_; (with_reducible refine (span_Const.calls t277 t298 t299 _ A53.out).mono ?_); rintro e w105 ⟨rfl, hb⟩; refine ⟨_, rfl, ?_⟩; have n0_ := Aside0.mk (Kd.R_below (by (with_reducible repeat (first | apply Kd.R_alloc | apply Kd.R_drewN | apply Kd.R_drew)); exact (Kd.R_mono (Kd.R_far (p := ⟨gb294, 1, none⟩) (Kd.R_far (p := ⟨gb294, 0, none⟩) (Kd.R_types HO_59.out BK294.out (by decide)) (fun _ hk => hk.2) (.int .u64 t291)) (fun _ hk => hk.2) (.int .u64 t292)) (fun _ h_ => h_.1))) hb); have n1_ := Aside0.mk (blk_below (g := gb274) (o := .cells #[.int .u64 a1_0, .int .u64 a1_1, .int .u64 a1_2, .int .u64 a1_3] 63 (0, 0)) (by (with_reducible repeat (first | apply bN | apply bD | apply bA)); refine blk_far ?_ NB274_294.out _; (with_reducible repeat (first | apply bN | apply bD | apply bA)); refine blk_far ?_ NB274_294.out _; (with_reducible repeat (first | apply bN | apply bD | apply bA)); exact BK274.out) hb); have n2_ := Aside0.mk (blk_below (g := gb275) (o := .cells #[.int .u64 a2_0, .int .u64 a2_1] 26 (0, 0)) (by (with_reducible repeat (first | apply bN | apply bD | apply bA)); refine blk_far ?_ NB275_294.out _; (with_reducible repeat (first | apply bN | apply bD | apply bA)); refine blk_far ?_ NB275_294.out _; (with_reducible repeat (first | apply bN | apply bD | apply bA)); exact BK275.out) hb); have n3_ := Aside0.mk (blk_below (g := gb294) (o := .cells #[.int .u64 t291, .int .u64 t292] 58 (0, 0)) (by (with_reducible repeat (first | apply bN | apply bD | apply bA)); refine blk_put (cs := #[.int .u64 t291, .int .u64 0]) ?_ 1 _ rfl; (with_reducible repeat (first | apply bN | apply bD | apply bA)); refine blk_put (cs := #[.int .u64 0, .int .u64 0]) ?_ 0 _ rfl; (with_reducible repeat (first | apply bN | apply bD | apply bA)); exact BK294.out) hb); have n4_ := Aside0.mk (below_step (by repeat (first | (with_reducible first | exact HB.out | apply lA | apply lN | apply lD | refine lS ?_ ‹_›) | exact HB.out)) hb); clear HO_59; clear BK274; clear BK275; clear BK294; clear HB; have HO_59 := n0_; have BK274 := n1_; have BK275 := n2_; have BK294 := n3_; have HB := n4_; clear n0_ n1_ n2_ n3_ n4_; (try clear hb); (try clear hb2); (try clear hk); (try clear hi)) | ((with_reducible refine gate_callee (f := 37) rfl ?_); refine goesL_ (some 90) rfl rfl Try.func37 (by kernel_rfl) rfl #[.int .u64 t278] rfl (by (try simp only [List.map_toArray, List.map_cons, List.map_nil]); first | done | rfl | (simp only [List.length_drop, List.length_take]; rfl)) ?_; (with_reducible refine (span_Const.calls t278 t300 t301 _ A54.out).mono ?_); rintro e w106 ⟨rfl, hb⟩; refine ⟨_, rfl, ?_⟩; have n0_ := Aside0.mk (Kd.R_below (by (with_reducible repeat (first | apply Kd.R_alloc | apply Kd.R_drewN | apply Kd.R_drew)); exact HO_59.out) hb); have n1_ := Aside0.mk (blk_below (g := gb274) (o := .cells #[.int .u64 a1_0, .int .u64 a1_1, .int .u64 a1_2, .int .u64 a1_3] 63 (0, 0)) (by (with_reducible repeat (first | apply bN | apply bD | apply bA)); exact BK274.out) hb); have n2_ := Aside0.mk (blk_below (g := gb275) (o := .cells #[.int .u64 a2_0, .int .u64 a2_1] 26 (0, 0)) (by (with_reducible repeat (first | apply bN | apply bD | apply bA)); exact BK275.out) hb); have n3_ := Aside0.mk (blk_below (g := gb294) (o := .cells #[.int .u64 t291, .int .u64 t292] 58 (0, 0)) (by (with_reducible repeat (first | apply bN | apply bD | apply bA)); exact BK294.out) hb); have n4_ := Aside0.mk (below_step (by repeat (first | (with_reducible first | exact HB.out | apply lA | apply lN | apply lD | refine lS ?_ ‹_›) | exact HB.out)) hb); clear HO_59; clear BK274; clear BK275; clear BK294; clear HB; have HO_59 := n0_; have BK274 := n1_; have BK275 := n2_; have BK294 := n3_; have HB := n4_; clear n0_ n1_ n2_ n3_ n4_; (try clear hb); (try clear hb2); (try clear hk); (try clear hi)) | ((with_reducible refine gate_callee (f := 32) rfl ?_); refine goesL_ (some 91) rfl rfl Try.func32 (by kernel_rfl) rfl #[.int .i64 a0, .bool (rdOf false y287 x61_2), .agg #[.int .u64 t298, .int .u64 t299], .agg #[.int .u64 t300, .int .u64 t301]] rfl (by (try simp only [List.map_toArray, List.map_cons, List.map_nil]); first | done | rfl | (simp only [List.length_drop, List.length_take]; rfl)) ?_; (with_reducible refine (span_Do.calls k2 a0 (rdOf false y287 x61_2) t298 t299 t300 t301 t302 t303 t304 _ A55.out).mono ?_); rintro e w107 ⟨rfl, hb⟩; refine ⟨_, rfl, ?_⟩; have n0_ := Aside0.mk (Kd.R_below (by (with_reducible repeat (first | apply Kd.R_alloc | apply Kd.R_drewN | apply Kd.R_drew)); exact HO_59.out) hb); have n1_ := Aside0.mk (blk_below (g := gb274) (o := .cells #[.int .u64 a1_0, .int .u64 a1_1, .int .u64 a1_2, .int .u64 a1_3] 63 (0, 0)) (by (with_reducible repeat (first | apply bN | apply bD | apply bA)); exact BK274.out) hb); have n2_ := Aside0.mk (blk_below (g := gb275) (o := .cells #[.int .u64 a2_0, .int .u64 a2_1] 26 (0, 0)) (by (with_reducible repeat (first | apply bN | apply bD | apply bA)); exact BK275.out) hb); have n3_ := Aside0.mk (blk_below (g := gb294) (o := .cells #[.int .u64 t291, .int .u64 t292] 58 (0, 0)) (by (with_reducible repeat (first | apply bN | apply bD | apply bA)); exact BK294.out) hb); have n4_ := Aside0.mk (below_step (by repeat (first | (with_reducible first | exact HB.out | apply lA | apply lN | apply lD | refine lS ?_ ‹_›) | exact HB.out)) hb); clear HO_59; clear BK274; clear BK275; clear BK294; clear HB; have HO_59 := n0_; have BK274 := n1_; have BK275 := n2_; have BK294 := n3_; have HB := n4_; clear n0_ n1_ n2_ n3_ n4_; (try clear hb); (try clear hb2); (try clear hk); (try clear hi)) | ((with_reducible refine gate_dst (N := 15) rfl ?_); refine box_event ?hg (N := 15) ?hd (cs := #[.int .u64 0, .int .u64 0]) (t := 58) ?hr ?_; (case hd => rfl); (case hg => rfl); (case hr => first | (go_simp; done) | (go_simp; rfl)); intro gb305 hg w108 hbox hb; have n0_ := Aside0.mk (Kd.R_below (by (with_reducible repeat (first | apply Kd.R_alloc | apply Kd.R_drewN | apply Kd.R_drew)); exact HO_59.out) hb); have n1_ := Aside0.mk (blk_below (g := gb274) (o := .cells #[.int .u64 a1_0, .int .u64 a1_1, .int .u64 a1_2, .int .u64 a1_3] 63 (0, 0)) (by (with_reducible repeat (first | apply bN | apply bD | apply bA)); exact BK274.out) hb); have n2_ := Aside0.mk (blk_below (g := gb275) (o := .cells #[.int .u64 a2_0, .int .u64 a2_1] 26 (0, 0)) (by (with_reducible repeat (first | apply bN | apply bD | apply bA)); exact BK275.out) hb); have n3_ := Aside0.mk (blk_below (g := gb294) (o := .cells #[.int .u64 t291, .int .u64 t292] 58 (0, 0)) (by (with_reducible repeat (first | apply bN | apply bD | apply bA)); exact BK294.out) hb); have n4_ := Aside0.mk (below_step (by repeat (first | (with_reducible first | exact HB.out | apply lA | apply lN | apply lD | refine lS ?_ ‹_›) | exact HB.out)) hb); have n5_ := Aside0.mk (hbox); have n6_ := Aside0.mk ((by rw [hg]; exact (below_size (by repeat (first | (with_reducible first | exact HB.out | apply lA | apply lN | apply lD | refine lS ?_ ‹_›) | exact HB.out))) : w.heap.size ≤ gb305)); have n7_ := n6_; have n8_ := Aside0.mk ((by rw [hg]; exact Nat.ne_of_lt (blk_lt (g := gb274) (o := .cells #[.int .u64 a1_0, .int .u64 a1_1, .int .u64 a1_2, .int .u64 a1_3] 63 (0, 0)) (by (with_reducible repeat (first | apply bN | apply bD | apply bA)); exact BK274.out)) : gb274 ≠ gb305)); have n9_ := sy n8_; have n10_ := Aside0.mk ((by rw [hg]; exact Nat.ne_of_lt (blk_lt (g := gb275) (o := .cells #[.int .u64 a2_0, .int .u64 a2_1] 26 (0, 0)) (by (with_reducible repeat (first | apply bN | apply bD | apply bA)); exact BK275.out)) : gb275 ≠ gb305)); have n11_ := sy n10_; have n12_ := Aside0.mk ((by rw [hg]; exact Nat.ne_of_lt (blk_lt (g := gb294) (o := .cells #[.int .u64 t291, .int .u64 t292] 58 (0, 0)) (by (with_reducible repeat (first | apply bN | apply bD | apply bA)); exact BK294.out)) : gb294 ≠ gb305)); have n13_ := sy n12_; clear HO_59; clear BK274; clear BK275; clear BK294; clear HB; have HO_59 := n0_; have BK274 := n1_; have BK275 := n2_; have BK294 := n3_; have HB := n4_; have BK305 := n5_; have GW305 := n6_; have GE305 := n7_; have NB274_305 := n8_; have NB305_274 := n9_; have NB275_305 := n10_; have NB305_275 := n11_; have NB294_305 := n12_; have NB305_294 := n13_; clear n0_ n1_ n2_ n3_ n4_ n5_ n6_ n7_ n8_ n9_ n10_ n11_ n12_ n13_; clear hb hbox hg; have hnb109 := NB305_274.out; have hnc109 := NB274_305.out; have hnb110 := NB305_275.out; have hnc110 := NB275_305.out; have hnb111 := NB305_294.out; have hnc111 := NB294_305.out; have hcz112_0 : w108.cell? ⟨gb305, 0, none⟩ = some (.int .u64 0) := (blk_cell BK305.out 0).trans rfl; have hcz112_1 : w108.cell? ⟨gb305, 1, none⟩ = some (.int .u64 0) := (blk_cell BK305.out 1).trans rfl; have hfz112_0 := blk_frozen BK305.out 0; have hfz112_1 := blk_frozen BK305.out 1))
           (try simp only [Act.put, List.setIfInBounds_toArray, List.set_cons_zero, List.set_cons_succ])
           go_cut [106] (fun v106 wc => ∃ (kq : Nat) (x106_96 : Bool), v106 = .bool x106_96 ∧ Aside0 (posternlaw15_SpanSound.j2 kq a0 t277 t278 y287 (y287.length : Int) x61_2 x106_96 a1_0 a1_1 a1_2 a1_3 = some r) ∧ Aside0 (kq ≤ k2) ∧ Aside0 (Kd.R Kd.bool 4 wc w.heap.size (fun _ => True) (.slice (some ad290) y287.length co46) y287) ∧ Aside0 (wc.heap[gb274]? = some (.cells #[.int .u64 a1_0, .int .u64 a1_1, .int .u64 a1_2, .int .u64 a1_3] 63 (0, 0))) ∧ Aside0 (wc.heap[gb275]? = some (.cells #[.int .u64 a2_0, .int .u64 a2_1] 26 (0, 0))) ∧ Aside0 (wc.heap[gb294]? = some (.cells #[.int .u64 t291, .int .u64 t292] 58 (0, 0))) ∧ Aside0 (wc.heap[gb305]? = some (.cells #[.int .u64 t302, .int .u64 t303] 58 (0, 0))) ∧ Aside0 (Below w.heap.size w wc))
           case first =>
            have H := HC97.out
            clear HC97
            by_cases c113 : t293 = 2
            ·
             rw [if_pos c113] at H
             have c113b0 : (t293 == 2) = true := beq_iff_eq.mpr c113; have c113b1 : (t293 != 2) = false := bne_eq_false_iff_eq.mpr c113; clear c113
             (first | rw [c113b0] | (simp only [i64_w, i32_w]; rw [c113b0]) | skip)
             by_cases c114 : t304 = 2
             ·
              rw [if_pos c114] at H
              have c114b0 : (t304 == 2) = true := beq_iff_eq.mpr c114; have c114b1 : (t304 != 2) = false := bne_eq_false_iff_eq.mpr c114; clear c114; have H' := Aside0.mk H
              clear H; have hnb115 := NB294_274.out; have hnc115 := NB274_294.out; have hnb116 := NB294_275.out; have hnc116 := NB275_294.out; have hnb117 := NB294_305.out; have hnc117 := NB305_294.out; have hcz118_0 : w108.cell? ⟨gb294, 0, none⟩ = some (.int .u64 t291) := (blk_cell BK294.out 0).trans rfl; have hcz118_1 : w108.cell? ⟨gb294, 1, none⟩ = some (.int .u64 t292) := (blk_cell BK294.out 1).trans rfl; have hfz118_0 := blk_frozen BK294.out 0; have hfz118_1 := blk_frozen BK294.out 1
              go_wp2
              go_meet
              case rel => exact ⟨_, ((!(t291 == 0) || (!(t292 == 0)))), (by first | rfl | (simp; done) | (simp [*]; done)), H', ⟨by have := HJ7.out; have := HK2.out; first | omega | exact Nat.le_refl _⟩, ⟨by (with_reducible repeat (first | apply Kd.R_alloc | apply Kd.R_drewN | apply Kd.R_drew)); exact Kd.R_mono (Kd.R_far (p := ⟨gb305, 1, none⟩) (Kd.R_far (p := ⟨gb305, 0, none⟩) (Kd.R_types HO_59.out BK305.out (by decide)) (fun _ hk => hk.2) (.int .u64 t302)) (fun _ hk => hk.2) (.int .u64 t303)) (fun _ hk => trivial)⟩, ⟨by (with_reducible repeat (first | apply bN | apply bD | apply bA)); refine blk_far ?_ NB274_305.out _; (with_reducible repeat (first | apply bN | apply bD | apply bA)); refine blk_far ?_ NB274_305.out _; (with_reducible repeat (first | apply bN | apply bD | apply bA)); exact BK274.out⟩, ⟨by (with_reducible repeat (first | apply bN | apply bD | apply bA)); refine blk_far ?_ NB275_305.out _; (with_reducible repeat (first | apply bN | apply bD | apply bA)); refine blk_far ?_ NB275_305.out _; (with_reducible repeat (first | apply bN | apply bD | apply bA)); exact BK275.out⟩, ⟨by (with_reducible repeat (first | apply bN | apply bD | apply bA)); refine blk_far ?_ NB294_305.out _; (with_reducible repeat (first | apply bN | apply bD | apply bA)); refine blk_far ?_ NB294_305.out _; (with_reducible repeat (first | apply bN | apply bD | apply bA)); exact BK294.out⟩, ⟨by (with_reducible repeat (first | apply bN | apply bD | apply bA)); refine blk_put (cs := #[.int .u64 t302, .int .u64 0]) ?_ 1 _ rfl; (with_reducible repeat (first | apply bN | apply bD | apply bA)); refine blk_put (cs := #[.int .u64 0, .int .u64 0]) ?_ 0 _ rfl; (with_reducible repeat (first | apply bN | apply bD | apply bA)); exact BK305.out⟩, ⟨by repeat (first | (with_reducible first | exact HB.out | apply lA | apply lN | apply lD | refine lS ?_ ‹_›) | exact HB.out)⟩⟩
             ·
              rw [if_neg c114] at H
              have c114b0 : (t304 == 2) = false := beq_eq_false_iff_ne.mpr c114; have c114b1 : (t304 != 2) = true := bne_iff_ne.mpr c114
              have H' := Aside0.mk H; clear H
              go_wp2
              go_meet
              case rel => exact ⟨_, (true), (by first | rfl | (simp; done) | (simp [*]; done)), H', ⟨by have := HJ7.out; have := HK2.out; first | omega | exact Nat.le_refl _⟩, ⟨by (with_reducible repeat (first | apply Kd.R_alloc | apply Kd.R_drewN | apply Kd.R_drew)); exact Kd.R_mono (Kd.R_far (p := ⟨gb305, 1, none⟩) (Kd.R_far (p := ⟨gb305, 0, none⟩) (Kd.R_types HO_59.out BK305.out (by decide)) (fun _ hk => hk.2) (.int .u64 t302)) (fun _ hk => hk.2) (.int .u64 t303)) (fun _ hk => trivial)⟩, ⟨by (with_reducible repeat (first | apply bN | apply bD | apply bA)); refine blk_far ?_ NB274_305.out _; (with_reducible repeat (first | apply bN | apply bD | apply bA)); refine blk_far ?_ NB274_305.out _; (with_reducible repeat (first | apply bN | apply bD | apply bA)); exact BK274.out⟩, ⟨by (with_reducible repeat (first | apply bN | apply bD | apply bA)); refine blk_far ?_ NB275_305.out _; (with_reducible repeat (first | apply bN | apply bD | apply bA)); refine blk_far ?_ NB275_305.out _; (with_reducible repeat (first | apply bN | apply bD | apply bA)); exact BK275.out⟩, ⟨by (with_reducible repeat (first | apply bN | apply bD | apply bA)); refine blk_far ?_ NB294_305.out _; (with_reducible repeat (first | apply bN | apply bD | apply bA)); refine blk_far ?_ NB294_305.out _; (with_reducible repeat (first | apply bN | apply bD | apply bA)); exact BK294.out⟩, ⟨by (with_reducible repeat (first | apply bN | apply bD | apply bA)); refine blk_put (cs := #[.int .u64 t302, .int .u64 0]) ?_ 1 _ rfl; (with_reducible repeat (first | apply bN | apply bD | apply bA)); refine blk_put (cs := #[.int .u64 0, .int .u64 0]) ?_ 0 _ rfl; (with_reducible repeat (first | apply bN | apply bD | apply bA)); exact BK305.out⟩, ⟨by repeat (first | (with_reducible first | exact HB.out | apply lA | apply lN | apply lD | refine lS ?_ ‹_›) | exact HB.out)⟩⟩
            ·
             rw [if_neg c113] at H
             have c113b0 : (t293 == 2) = false := beq_eq_false_iff_ne.mpr c113; have c113b1 : (t293 != 2) = true := bne_iff_ne.mpr c113
             (first | rw [c113b0] | (simp only [i64_w, i32_w]; rw [c113b0]) | skip)
             have H' := Aside0.mk H; clear H
             go_wp2
             go_meet
             case rel => exact ⟨_, (true), (by first | rfl | (simp; done) | (simp [*]; done)), H', ⟨by have := HJ7.out; have := HK2.out; first | omega | exact Nat.le_refl _⟩, ⟨by (with_reducible repeat (first | apply Kd.R_alloc | apply Kd.R_drewN | apply Kd.R_drew)); exact Kd.R_mono (Kd.R_far (p := ⟨gb305, 1, none⟩) (Kd.R_far (p := ⟨gb305, 0, none⟩) (Kd.R_types HO_59.out BK305.out (by decide)) (fun _ hk => hk.2) (.int .u64 t302)) (fun _ hk => hk.2) (.int .u64 t303)) (fun _ hk => trivial)⟩, ⟨by (with_reducible repeat (first | apply bN | apply bD | apply bA)); refine blk_far ?_ NB274_305.out _; (with_reducible repeat (first | apply bN | apply bD | apply bA)); refine blk_far ?_ NB274_305.out _; (with_reducible repeat (first | apply bN | apply bD | apply bA)); exact BK274.out⟩, ⟨by (with_reducible repeat (first | apply bN | apply bD | apply bA)); refine blk_far ?_ NB275_305.out _; (with_reducible repeat (first | apply bN | apply bD | apply bA)); refine blk_far ?_ NB275_305.out _; (with_reducible repeat (first | apply bN | apply bD | apply bA)); exact BK275.out⟩, ⟨by (with_reducible repeat (first | apply bN | apply bD | apply bA)); refine blk_far ?_ NB294_305.out _; (with_reducible repeat (first | apply bN | apply bD | apply bA)); refine blk_far ?_ NB294_305.out _; (with_reducible repeat (first | apply bN | apply bD | apply bA)); exact BK294.out⟩, ⟨by (with_reducible repeat (first | apply bN | apply bD | apply bA)); refine blk_put (cs := #[.int .u64 t302, .int .u64 0]) ?_ 1 _ rfl; (with_reducible repeat (first | apply bN | apply bD | apply bA)); refine blk_put (cs := #[.int .u64 0, .int .u64 0]) ?_ 0 _ rfl; (with_reducible repeat (first | apply bN | apply bD | apply bA)); exact BK305.out⟩, ⟨by repeat (first | (with_reducible first | exact HB.out | apply lA | apply lN | apply lD | refine lS ?_ ‹_›) | exact HB.out)⟩⟩
           case rest =>
            clear HC97; (try clear c1); (try clear c2); (try clear p2); (try clear q2); (try clear hx2); (try clear c3); (try clear c4); (try clear c5); (try clear c6); (try clear p6); (try clear q6); (try clear c7); (try clear c8); (try clear c9); (try clear c10); (try clear c11); (try clear c15); (try clear c16); (try clear c26); (try clear p29); (try clear q29); (try clear hx29); (try clear c32); (try clear c35); (try clear c37); (try clear c39); (try clear c40); (try clear c41); (try clear c43); (try clear c47); (try clear c47b0); (try clear c48); (try clear c48b0); (try clear c49); (try clear c49b0); (try clear c56); (try clear c57); (try clear c57b0); (try clear c57b1); (try clear c58); (try clear c58b0); (try clear c58b1); (try clear c59); (try clear c59b0); (try clear c60); (try clear c60b0); (try clear c61); (try clear c61b0); (try clear q62); (try clear c63); (try clear c64); (try clear p64); (try clear c68); (try clear c69); (try clear c75); (try clear c76); (try clear c77); (try clear c80); (try clear c80b0); (try clear c80b1); (try clear c81); (try clear c85); (try clear c86); (try clear c92); (try clear c93); (try clear c94); (try clear c98); (try clear c102); (try clear c103); (try clear c109); (try clear c110); (try clear c111); (try clear c113); (try clear c113b0); (try clear c113b1); (try clear c114); (try clear c114b0); (try clear c114b1); (try clear c115); (try clear c116); (try clear c117); (try clear hcz104_0); (try clear hcz104_1); (try clear hcz112_0); (try clear hcz112_1)
            (try clear hcz118_0); (try clear hcz118_1)
            (try clear hcz65_0); (try clear hcz65_1)
            (try clear hcz65_2); (try clear hcz65_3)
            (try clear hcz70_0); (try clear hcz70_1)
            (try clear hcz78_0); (try clear hcz78_1)
            (try clear hcz79_0); (try clear hcz79_1)
            (try clear hcz82_0); (try clear hcz82_1)
            (try clear hcz82_2); (try clear hcz82_3)
            (try clear hcz87_0); (try clear hcz87_1)
            (try clear hcz95_0); (try clear hcz95_1)
            (try clear hcz96_0); (try clear hcz96_1)
            (try clear hcz99_0); (try clear hcz99_1)
            (try clear hcz99_2); (try clear hcz99_3)
            (try clear hfz104_0); (try clear hfz104_1)
            (try clear hfz112_0); (try clear hfz112_1)
            (try clear hfz118_0); (try clear hfz118_1)
            (try clear hfz65_0); (try clear hfz65_1)
            (try clear hfz65_2); (try clear hfz65_3)
            (try clear hfz70_0); (try clear hfz70_1)
            (try clear hfz78_0); (try clear hfz78_1)
            (try clear hfz79_0); (try clear hfz79_1)
            (try clear hfz82_0); (try clear hfz82_1)
            (try clear hfz82_2); (try clear hfz82_3)
            (try clear hfz87_0); (try clear hfz87_1)
            (try clear hfz95_0); (try clear hfz95_1)
            (try clear hfz96_0); (try clear hfz96_1)
            (try clear hfz99_0); (try clear hfz99_1)
            (try clear hfz99_2); (try clear hfz99_3)
            (try clear hx290_0); (try clear p2)
            (try clear p290); (try clear q290)
            obtain ⟨kq, x106_96, rfl, HA, HJ96, HO_59, BK274, BK275, BK294, BK305, HB⟩ := hcut
            cases kq with
            | zero => exact absurd HA.out (by simp [posternlaw15_SpanSound.j2])
            | succ kj96 =>
             have H := HA.out
             clear HA
             simp only [posternlaw15_SpanSound.j2] at H
             by_cases c119 : x106_96 = true
             ·
              subst c119
              have H1 : (some false) = some r := by rw [if_pos rfl] at H; exact H
              clear H; have H := H1; clear H1
              exact absurd (H.trans (congrArg some hr_.out)) (by simp)
             ·
              replace c119 := Bool.eq_false_iff.mpr c119
              subst c119
              have H1 : (posternlaw15_SpanSound.l0 kj96 a0 t277 t278 y287 (y287.length : Int) (wrap64 (x61_2 + 1)) a1_0 a1_1 a1_2 a1_3) = some r := by rw [if_neg (show ¬ (false = true) by decide)] at H; exact H
              clear H; have H := H1; clear H1; have H' := Aside0.mk H; clear H
              go_wp2
              go_roundg kj96
              case measure => have := HJ7.out; have := HK2.out; have := HJ96.out; omega
              case rel => exact ⟨(wrap64 (x61_2 + 1)), (by first | rfl | (simp; done) | (simp [*]; done)), H', ⟨by have := HJ7.out; have := HK2.out; have := HJ96.out; omega⟩, ⟨by (with_reducible repeat (first | apply Kd.R_alloc | apply Kd.R_drewN | apply Kd.R_drew)); exact HO_59.out⟩, ⟨by (with_reducible repeat (first | apply bN | apply bD | apply bA)); exact BK274.out⟩, ⟨by (with_reducible repeat (first | apply bN | apply bD | apply bA)); exact BK275.out⟩, ⟨by repeat (first | (with_reducible first | exact HB.out | apply lA | apply lN | apply lD | refine lS ?_ ‹_›) | exact HB.out)⟩⟩
         ·
          rw [if_neg c49] at H
          exact absurd H (by simp)
        ·
         rw [if_neg c48] at H
         exact absurd H (by simp)
       ·
        rw [if_neg c47] at H
        have c47b0 : decide (x61_2 < (y287.length : Int)) = false := decide_eq_false c47; clear c47
        obtain rfl := Option.some.inj H
        go_wp2
        go_ret
        exact ⟨by first | rfl | (simp [errW_none, errW_some] <;> rfl) | (simp [*, errW_none, errW_some] <;> rfl), by repeat (first | (with_reducible first | exact HB.out | apply lA | apply lN | apply lD | refine lS ?_ ‹_›) | exact HB.out)⟩
 ·
  replace c5 := Bool.eq_false_iff.mpr c5
  subst c5
  have H1 : (some false) = some r := by rw [if_neg (show ¬ (false = true) by decide)] at H; exact H
  clear H; have H := H1; clear H1
  exact absurd (H.trans (congrArg some hr_.out)) (by simp)
end Go.Proofs.Ytladlljnpmpdpaa.PSpanSound
