import Derived.Test.YtladlljnpmpdpaaPSpanNarrowx0
import Derived.Test.YtladlljnpmpdpaaPSpanNarrowx1
import Derived.Test.YtladlljnpmpdpaaPSpanNarrowx2
import Derived.Test.YtladlljnpmpdpaaPSpanNarrowx10
import Derived.Test.YtladlljnpmpdpaaPSpanNarrowx11
namespace Go.Proofs.Ytladlljnpmpdpaa.PSpanNarrow
open Go.RowKit Go.Proofs.YtladlljnpmpdpaaW.PrintWords Go.Proofs.YtladlljnpmpdpaaW.PrintLast Go.Proofs.YtladlljnpmpdpaaW.PrintMore
attribute [local go_sem] max2_int min2_int max_two min_two max_three min_three max_four min_four   -- for this text's walks alone
attribute [local go_sem high] Go.Proofs.Ytladlljnpmpdpaa.NotLaw.not_u64 Go.Proofs.Ytladlljnpmpdpaa.NotLaw.not_u32 Go.Proofs.Ytladlljnpmpdpaa.NotLaw.not_u16 Go.Proofs.Ytladlljnpmpdpaa.NotLaw.not_u8
set_option linter.unusedVariables false
set_option linter.unusedSimpArgs false
attribute [local go_sem high] eqA58
theorem qT {α : Type _} (l : List α) (i : Nat) (a : α) : l.toArray.setIfInBounds i a = (l.set i a).toArray := List.setIfInBounds_toArray l i a
theorem q0 {α : Type _} {x b : α} {l : List α} : (x :: l).set 0 b = b :: l := List.set_cons_zero
theorem q1 {α : Type _} {x b : α} {l : List α} {n : Nat} : (x :: l).set (n + 1) b = x :: l.set n b := List.set_cons_succ
abbrev y : Bool := true
abbrev z : Bool := false
mutual
def posternlaw15_SpanNarrow.l0 : Nat → Int → Int → Int → List Bool → Int → Int → Int → Int → Int → Int → Option (Bool)
 | 0, _, _, _, _, _, _, _, _, _, _ => none
 | k + 1, x0, x7, x8, x35, x36, x37, x265000, x265001, x265002, x265003 => if x37 < x36 then (if 0 ≤ x37 then (if x37 < (x35.length : Int) then ((posternlaw15_size.f (rdOf false x35 x37)).bind fun t273 => ((posternref05_Holds.f k x0 t273 x7 x8).bind fun bt274 => ((some (([true, false] : List Bool) : List Bool)).bind fun y276 => (posternlaw15_SpanNarrow.l1 k x0 x7 x8 (rdOf false x35 x37) bt274.1 bt274.2 x35 x36 x37 y276 (y276.length : Int) 0 x265000 x265001 x265002 x265003)))) else (none)) else (none)) else (some true)
def posternlaw15_SpanNarrow.l1 : Nat → Int → Int → Int → Bool → Bool → Bool → List Bool → Int → Int → List Bool → Int → Int → Int → Int → Int → Int → Option (Bool)
 | 0, _, _, _, _, _, _, _, _, _, _, _, _, _, _, _, _ => none
 | k + 1, x0, x7, x8, x10, x11, x12, x35, x36, x37, x50, x51, x52, x265000, x265001, x265002, x265003 => if x52 < x51 then (if 0 ≤ x52 then (if x52 < (x50.length : Int) then ((span_Narrow.f k x0 x10 (rdOf false x50 x52) x265000 x265001 x265002 x265003).bind fun bt280 => ((span_Const.f x7).bind fun bt288 => ((span_Const.f x8).bind fun bt290 => ((span_Narrow.f k x0 x10 (rdOf false x50 x52) bt288.1 bt288.2 bt290.1 bt290.2).bind fun bt292 => (if x12 = true then (if bt280.2.2.2.2.2 = 0 then (if bt292.2.2.2.2.2 = 0 then (if (bt292.2.2.2.2.1 != (x11 == (rdOf false x50 x52))) = true then (posternlaw15_SpanNarrow.j2 k x0 x7 x8 x10 x11 x12 (rdOf false x50 x52) bt280.2.2.2.2.1 x35 x36 x37 x50 x51 x52 true x265000 x265001 x265002 x265003 bt280.1 bt280.2.1 bt280.2.2.1 bt280.2.2.2.1) else (if bt280.2.2.2.2.1 = true then (posternlaw15_SpanNarrow.j2 k x0 x7 x8 x10 x11 x12 (rdOf false x50 x52) bt280.2.2.2.2.1 x35 x36 x37 x50 x51 x52 false x265000 x265001 x265002 x265003 bt280.1 bt280.2.1 bt280.2.2.1 bt280.2.2.2.1) else (if (!(bt280.1 == 0) || (!(bt280.2.1 == 0))) = true then (posternlaw15_SpanNarrow.j2 k x0 x7 x8 x10 x11 x12 (rdOf false x50 x52) bt280.2.2.2.2.1 x35 x36 x37 x50 x51 x52 true x265000 x265001 x265002 x265003 bt280.1 bt280.2.1 bt280.2.2.1 bt280.2.2.2.1) else (posternlaw15_SpanNarrow.j2 k x0 x7 x8 x10 x11 x12 (rdOf false x50 x52) bt280.2.2.2.2.1 x35 x36 x37 x50 x51 x52 (!(bt280.2.2.1 == 0) || (!(bt280.2.2.2.1 == 0))) x265000 x265001 x265002 x265003 bt280.1 bt280.2.1 bt280.2.2.1 bt280.2.2.2.1)))) else (posternlaw15_SpanNarrow.j2 k x0 x7 x8 x10 x11 x12 (rdOf false x50 x52) bt280.2.2.2.2.1 x35 x36 x37 x50 x51 x52 true x265000 x265001 x265002 x265003 bt280.1 bt280.2.1 bt280.2.2.1 bt280.2.2.2.1)) else (posternlaw15_SpanNarrow.j2 k x0 x7 x8 x10 x11 x12 (rdOf false x50 x52) bt280.2.2.2.2.1 x35 x36 x37 x50 x51 x52 true x265000 x265001 x265002 x265003 bt280.1 bt280.2.1 bt280.2.2.1 bt280.2.2.2.1)) else (if bt280.2.2.2.2.2 = 2 then (if bt292.2.2.2.2.2 = 2 then (if bt280.2.2.2.2.1 = true then (some false) else (if (!(bt280.1 == 0) || (!(bt280.2.1 == 0))) = true then (some false) else (if (!(bt280.2.2.1 == 0) || (!(bt280.2.2.2.1 == 0))) = true then (some false) else (posternlaw15_SpanNarrow.l1 k x0 x7 x8 x10 x11 x12 x35 x36 x37 x50 x51 (wrap64 (x52 + 1)) x265000 x265001 x265002 x265003)))) else (some false)) else (some false))))))) else (none)) else (none)) else (posternlaw15_SpanNarrow.l0 k x0 x7 x8 x35 x36 (wrap64 (x37 + 1)) x265000 x265001 x265002 x265003)
def posternlaw15_SpanNarrow.j2 : Nat → Int → Int → Int → Bool → Bool → Bool → Bool → Bool → List Bool → Int → Int → List Bool → Int → Int → Bool → Int → Int → Int → Int → Int → Int → Int → Int → Option (Bool)
 | 0, _, _, _, _, _, _, _, _, _, _, _, _, _, _, _, _, _, _, _, _, _, _, _ => none
 | k + 1, x0, x7, x8, x10, x11, x12, x14, x17, x35, x36, x37, x50, x51, x52, x129, x265000, x265001, x265002, x265003, x287000, x287001, x288000, x288001 => if x129 = true then (some false) else (if (x11 == x14) = true then (if x17 = true then (if x7 < x287000 then (posternlaw15_SpanNarrow.j3 k x0 x7 x8 x10 x11 x12 x17 x35 x36 x37 x50 x51 x52 true x265000 x265001 x265002 x265003 x287000 x287001 x288000 x288001) else (if x7 > x287001 then (posternlaw15_SpanNarrow.j3 k x0 x7 x8 x10 x11 x12 x17 x35 x36 x37 x50 x51 x52 true x265000 x265001 x265002 x265003 x287000 x287001 x288000 x288001) else (if x8 < x288000 then (posternlaw15_SpanNarrow.j3 k x0 x7 x8 x10 x11 x12 x17 x35 x36 x37 x50 x51 x52 true x265000 x265001 x265002 x265003 x287000 x287001 x288000 x288001) else (posternlaw15_SpanNarrow.j3 k x0 x7 x8 x10 x11 x12 x17 x35 x36 x37 x50 x51 x52 (decide (x8 > x288001)) x265000 x265001 x265002 x265003 x287000 x287001 x288000 x288001)))) else (posternlaw15_SpanNarrow.j3 k x0 x7 x8 x10 x11 x12 x17 x35 x36 x37 x50 x51 x52 true x265000 x265001 x265002 x265003 x287000 x287001 x288000 x288001)) else (posternlaw15_SpanNarrow.j3 k x0 x7 x8 x10 x11 x12 x17 x35 x36 x37 x50 x51 x52 false x265000 x265001 x265002 x265003 x287000 x287001 x288000 x288001))
def posternlaw15_SpanNarrow.j3 : Nat → Int → Int → Int → Bool → Bool → Bool → Bool → List Bool → Int → Int → List Bool → Int → Int → Bool → Int → Int → Int → Int → Int → Int → Int → Int → Option (Bool)
 | 0, _, _, _, _, _, _, _, _, _, _, _, _, _, _, _, _, _, _, _, _, _, _ => none
 | k + 1, x0, x7, x8, x10, x11, x12, x17, x35, x36, x37, x50, x51, x52, x160, x265000, x265001, x265002, x265003, x287000, x287001, x288000, x288001 => if x160 = true then (some false) else (if x17 = true then (if x287000 > x287001 then (some false) else (if x288000 > x288001 then (some false) else ((posternref15_Lo.f x265000 x265001).bind fun t300 => (if x287000 < t300 then (some false) else ((posternref15_Hi.f x265000 x265001).bind fun t301 => (if x287001 > t301 then (some false) else ((posternref15_Lo.f x265002 x265003).bind fun t302 => (if x288000 < t302 then (some false) else ((posternref15_Hi.f x265002 x265003).bind fun t303 => (if x288001 > t303 then (some false) else (posternlaw15_SpanNarrow.l1 k x0 x7 x8 x10 x11 x12 x35 x36 x37 x50 x51 (wrap64 (x52 + 1)) x265000 x265001 x265002 x265003))))))))))) else (posternlaw15_SpanNarrow.l1 k x0 x7 x8 x10 x11 x12 x35 x36 x37 x50 x51 (wrap64 (x52 + 1)) x265000 x265001 x265002 x265003))
end
def posternlaw15_SpanNarrow.f (k : Nat) (a0 : Int) (a1_0 : Int) (a1_1 : Int) (a1_2 : Int) (a1_3 : Int) (a2_0 : Int) (a2_1 : Int) : Option (Bool) := (posternlaw15_first.f k).bind fun t266 => (if t266 = true then ((posternref15_Member.f a1_0 a1_1 a2_0).bind fun t267 => ((posternref15_Member.f a1_2 a1_3 a2_1).bind fun t268 => ((some (([true, false] : List Bool) : List Bool)).bind fun y269 => (posternlaw15_SpanNarrow.l0 k a0 t267 t268 y269 (y269.length : Int) 0 a1_0 a1_1 a1_2 a1_3)))) else (some false))
theorem posternlaw15_SpanNarrow.mono_l : ∀ k, (∀ y0 y1 y2 y3 y4 y5 y6 y7 y8 y9, LeO (posternlaw15_SpanNarrow.l0 k y0 y1 y2 y3 y4 y5 y6 y7 y8 y9) (posternlaw15_SpanNarrow.l0 (k + 1) y0 y1 y2 y3 y4 y5 y6 y7 y8 y9)) ∧ (∀ y0 y1 y2 y3 y4 y5 y6 y7 y8 y9 y10 y11 y12 y13 y14 y15, LeO (posternlaw15_SpanNarrow.l1 k y0 y1 y2 y3 y4 y5 y6 y7 y8 y9 y10 y11 y12 y13 y14 y15) (posternlaw15_SpanNarrow.l1 (k + 1) y0 y1 y2 y3 y4 y5 y6 y7 y8 y9 y10 y11 y12 y13 y14 y15)) ∧ (∀ y0 y1 y2 y3 y4 y5 y6 y7 y8 y9 y10 y11 y12 y13 y14 y15 y16 y17 y18 y19 y20 y21 y22, LeO (posternlaw15_SpanNarrow.j2 k y0 y1 y2 y3 y4 y5 y6 y7 y8 y9 y10 y11 y12 y13 y14 y15 y16 y17 y18 y19 y20 y21 y22) (posternlaw15_SpanNarrow.j2 (k + 1) y0 y1 y2 y3 y4 y5 y6 y7 y8 y9 y10 y11 y12 y13 y14 y15 y16 y17 y18 y19 y20 y21 y22)) ∧ (∀ y0 y1 y2 y3 y4 y5 y6 y7 y8 y9 y10 y11 y12 y13 y14 y15 y16 y17 y18 y19 y20 y21, LeO (posternlaw15_SpanNarrow.j3 k y0 y1 y2 y3 y4 y5 y6 y7 y8 y9 y10 y11 y12 y13 y14 y15 y16 y17 y18 y19 y20 y21) (posternlaw15_SpanNarrow.j3 (k + 1) y0 y1 y2 y3 y4 y5 y6 y7 y8 y9 y10 y11 y12 y13 y14 y15 y16 y17 y18 y19 y20 y21))
 | 0 => ⟨fun _ _ _ _ _ _ _ _ _ _ r h => by simp [posternlaw15_SpanNarrow.l0] at h, fun _ _ _ _ _ _ _ _ _ _ _ _ _ _ _ _ r h => by simp [posternlaw15_SpanNarrow.l1] at h, fun _ _ _ _ _ _ _ _ _ _ _ _ _ _ _ _ _ _ _ _ _ _ _ r h => by simp [posternlaw15_SpanNarrow.j2] at h, fun _ _ _ _ _ _ _ _ _ _ _ _ _ _ _ _ _ _ _ _ _ _ r h => by simp [posternlaw15_SpanNarrow.j3] at h⟩
 | k + 1 => by
  obtain ⟨ih0, ih1, ih2, ih3⟩ := posternlaw15_SpanNarrow.mono_l k
  refine ⟨?_, ?_, ?_, ?_⟩
  ·
   intro y0 y1 y2 y3 y4 y5 y6 y7 y8 y9
   unfold posternlaw15_SpanNarrow.l0
   repeat' first
   | (with_reducible exact ih0 _ _ _ _ _ _ _ _ _ _)
   | (with_reducible exact ih1 _ _ _ _ _ _ _ _ _ _ _ _ _ _ _ _)
   | (with_reducible exact ih2 _ _ _ _ _ _ _ _ _ _ _ _ _ _ _ _ _ _ _ _ _ _ _)
   | (with_reducible exact ih3 _ _ _ _ _ _ _ _ _ _ _ _ _ _ _ _ _ _ _ _ _ _)
   | (with_reducible exact posternlaw15_first.mono _)
   | (with_reducible exact posternref05_Holds.mono _ _ _ _ _)
   | (with_reducible exact span_Narrow.mono _ _ _ _ _ _ _ _)
   | (with_reducible exact LeO.refl _)
   | (with_reducible exact LeO.none _)
   | (with_reducible refine LeO.ite ?_ ?_)
   | (with_reducible refine LeO.bind ?_ (fun _ => ?_))
   | exact ih0 _ _ _ _ _ _ _ _ _ _
   | exact ih1 _ _ _ _ _ _ _ _ _ _ _ _ _ _ _ _
   | exact ih2 _ _ _ _ _ _ _ _ _ _ _ _ _ _ _ _ _ _ _ _ _ _ _
   | exact ih3 _ _ _ _ _ _ _ _ _ _ _ _ _ _ _ _ _ _ _ _ _ _
   | exact posternlaw15_first.mono _
   | exact posternref05_Holds.mono _ _ _ _ _
   | exact span_Narrow.mono _ _ _ _ _ _ _ _
   | exact LeO.none _
   | refine LeO.ite ?_ ?_
   | refine LeO.bind ?_ (fun _ => ?_)
  ·
   intro y0 y1 y2 y3 y4 y5 y6 y7 y8 y9 y10 y11 y12 y13 y14 y15
   unfold posternlaw15_SpanNarrow.l1
   repeat' first
   | (with_reducible exact ih0 _ _ _ _ _ _ _ _ _ _)
   | (with_reducible exact ih1 _ _ _ _ _ _ _ _ _ _ _ _ _ _ _ _)
   | (with_reducible exact ih2 _ _ _ _ _ _ _ _ _ _ _ _ _ _ _ _ _ _ _ _ _ _ _)
   | (with_reducible exact ih3 _ _ _ _ _ _ _ _ _ _ _ _ _ _ _ _ _ _ _ _ _ _)
   | (with_reducible exact posternlaw15_first.mono _)
   | (with_reducible exact posternref05_Holds.mono _ _ _ _ _)
   | (with_reducible exact span_Narrow.mono _ _ _ _ _ _ _ _)
   | (with_reducible exact LeO.refl _)
   | (with_reducible exact LeO.none _)
   | (with_reducible refine LeO.ite ?_ ?_)
   | (with_reducible refine LeO.bind ?_ (fun _ => ?_))
   | exact ih0 _ _ _ _ _ _ _ _ _ _
   | exact ih1 _ _ _ _ _ _ _ _ _ _ _ _ _ _ _ _
   | exact ih2 _ _ _ _ _ _ _ _ _ _ _ _ _ _ _ _ _ _ _ _ _ _ _
   | exact ih3 _ _ _ _ _ _ _ _ _ _ _ _ _ _ _ _ _ _ _ _ _ _
   | exact posternlaw15_first.mono _
   | exact posternref05_Holds.mono _ _ _ _ _
   | exact span_Narrow.mono _ _ _ _ _ _ _ _
   | exact LeO.none _
   | refine LeO.ite ?_ ?_
   | refine LeO.bind ?_ (fun _ => ?_)
  ·
   intro y0 y1 y2 y3 y4 y5 y6 y7 y8 y9 y10 y11 y12 y13 y14 y15 y16 y17 y18 y19 y20 y21 y22
   unfold posternlaw15_SpanNarrow.j2
   repeat' first
   | (with_reducible exact ih0 _ _ _ _ _ _ _ _ _ _)
   | (with_reducible exact ih1 _ _ _ _ _ _ _ _ _ _ _ _ _ _ _ _)
   | (with_reducible exact ih2 _ _ _ _ _ _ _ _ _ _ _ _ _ _ _ _ _ _ _ _ _ _ _)
   | (with_reducible exact ih3 _ _ _ _ _ _ _ _ _ _ _ _ _ _ _ _ _ _ _ _ _ _)
   | (with_reducible exact posternlaw15_first.mono _)
   | (with_reducible exact posternref05_Holds.mono _ _ _ _ _)
   | (with_reducible exact span_Narrow.mono _ _ _ _ _ _ _ _)
   | (with_reducible exact LeO.refl _)
   | (with_reducible exact LeO.none _)
   | (with_reducible refine LeO.ite ?_ ?_)
   | (with_reducible refine LeO.bind ?_ (fun _ => ?_))
   | exact ih0 _ _ _ _ _ _ _ _ _ _
   | exact ih1 _ _ _ _ _ _ _ _ _ _ _ _ _ _ _ _
   | exact ih2 _ _ _ _ _ _ _ _ _ _ _ _ _ _ _ _ _ _ _ _ _ _ _
   | exact ih3 _ _ _ _ _ _ _ _ _ _ _ _ _ _ _ _ _ _ _ _ _ _
   | exact posternlaw15_first.mono _
   | exact posternref05_Holds.mono _ _ _ _ _
   | exact span_Narrow.mono _ _ _ _ _ _ _ _
   | exact LeO.none _
   | refine LeO.ite ?_ ?_
   | refine LeO.bind ?_ (fun _ => ?_)
  ·
   intro y0 y1 y2 y3 y4 y5 y6 y7 y8 y9 y10 y11 y12 y13 y14 y15 y16 y17 y18 y19 y20 y21
   unfold posternlaw15_SpanNarrow.j3
   repeat' first
   | (with_reducible exact ih0 _ _ _ _ _ _ _ _ _ _)
   | (with_reducible exact ih1 _ _ _ _ _ _ _ _ _ _ _ _ _ _ _ _)
   | (with_reducible exact ih2 _ _ _ _ _ _ _ _ _ _ _ _ _ _ _ _ _ _ _ _ _ _ _)
   | (with_reducible exact ih3 _ _ _ _ _ _ _ _ _ _ _ _ _ _ _ _ _ _ _ _ _ _)
   | (with_reducible exact posternlaw15_first.mono _)
   | (with_reducible exact posternref05_Holds.mono _ _ _ _ _)
   | (with_reducible exact span_Narrow.mono _ _ _ _ _ _ _ _)
   | (with_reducible exact LeO.refl _)
   | (with_reducible exact LeO.none _)
   | (with_reducible refine LeO.ite ?_ ?_)
   | (with_reducible refine LeO.bind ?_ (fun _ => ?_))
   | exact ih0 _ _ _ _ _ _ _ _ _ _
   | exact ih1 _ _ _ _ _ _ _ _ _ _ _ _ _ _ _ _
   | exact ih2 _ _ _ _ _ _ _ _ _ _ _ _ _ _ _ _ _ _ _ _ _ _ _
   | exact ih3 _ _ _ _ _ _ _ _ _ _ _ _ _ _ _ _ _ _ _ _ _ _
   | exact posternlaw15_first.mono _
   | exact posternref05_Holds.mono _ _ _ _ _
   | exact span_Narrow.mono _ _ _ _ _ _ _ _
   | exact LeO.none _
   | refine LeO.ite ?_ ?_
   | refine LeO.bind ?_ (fun _ => ?_)
theorem posternlaw15_SpanNarrow.mono : ∀ a0 a1 a2 a3 a4 a5 a6 k, LeO (posternlaw15_SpanNarrow.f k a0 a1 a2 a3 a4 a5 a6) (posternlaw15_SpanNarrow.f (k + 1) a0 a1 a2 a3 a4 a5 a6) := by
 intro a0 a1 a2 a3 a4 a5 a6 k
 obtain ⟨ih0, ih1, ih2, ih3⟩ := posternlaw15_SpanNarrow.mono_l k
 unfold posternlaw15_SpanNarrow.f
 repeat' first
   | (with_reducible exact ih0 _ _ _ _ _ _ _ _ _ _)
   | (with_reducible exact ih1 _ _ _ _ _ _ _ _ _ _ _ _ _ _ _ _)
   | (with_reducible exact ih2 _ _ _ _ _ _ _ _ _ _ _ _ _ _ _ _ _ _ _ _ _ _ _)
   | (with_reducible exact ih3 _ _ _ _ _ _ _ _ _ _ _ _ _ _ _ _ _ _ _ _ _ _)
   | (with_reducible exact posternlaw15_first.mono _)
   | (with_reducible exact posternref05_Holds.mono _ _ _ _ _)
   | (with_reducible exact span_Narrow.mono _ _ _ _ _ _ _ _)
   | (with_reducible exact LeO.refl _)
   | (with_reducible exact LeO.none _)
   | (with_reducible refine LeO.ite ?_ ?_)
   | (with_reducible refine LeO.bind ?_ (fun _ => ?_))
   | exact ih0 _ _ _ _ _ _ _ _ _ _
   | exact ih1 _ _ _ _ _ _ _ _ _ _ _ _ _ _ _ _
   | exact ih2 _ _ _ _ _ _ _ _ _ _ _ _ _ _ _ _ _ _ _ _ _ _ _
   | exact ih3 _ _ _ _ _ _ _ _ _ _ _ _ _ _ _ _ _ _ _ _ _ _
   | exact posternlaw15_first.mono _
   | exact posternref05_Holds.mono _ _ _ _ _
   | exact span_Narrow.mono _ _ _ _ _ _ _ _
   | exact LeO.none _
   | refine LeO.ite ?_ ?_
   | refine LeO.bind ?_ (fun _ => ?_)
def posternlaw15_SpanNarrow.T3 : Bool × List (List Nat × List Nat) := (true, [([], []), ([0], [0]), ([], []), ([2], [2]), ([1, 3], [1, 3]), ([], []), ([5], [5]), ([], []), ([7], [7]), ([6, 8, 4], [6, 8]), ([4, 9, 0, 1, 2, 3, 4], [4]), ([9, 10, 0, 1, 2, 3, 4, 5, 6, 7, 8, 9, 10], [9])])
def posternlaw15_SpanNarrow.B3 : List Nat := [0, 1, 0, 4, 15, 0, 32, 0, 128, 511, 1023, 2047]
theorem posternlaw15_SpanNarrow.tab3 : rtab .any (opsOf Try.f9 3) = posternlaw15_SpanNarrow.T3 := by kernel_rfl
theorem posternlaw15_SpanNarrow.bits3 : waitsOk posternlaw15_SpanNarrow.T3.2 posternlaw15_SpanNarrow.B3 = true := by kernel_rfl
def posternlaw15_SpanNarrow.T20 : Bool × List (List Nat × List Nat) := (true, [([], []), ([0], [0]), ([1], [1]), ([2, 1], [1, 2]), ([1], [1]), ([4, 1], [1, 4]), ([3, 5, 1], [1, 3, 5]), ([6, 1, 1], [1, 6]), ([7], [7]), ([8, 7], [7, 8]), ([7], [7]), ([10, 7], [7, 10]), ([9, 11, 7], [7, 9, 11]), ([7, 12, 1], [1, 7, 12]), ([13, 7, 1], [1, 13]), ([14], [14]), ([15, 14], [14, 15]), ([14], [14]), ([17, 14], [14, 17]), ([18, 14, 14], [14, 18]), ([16, 19, 14], [14, 16, 19]), ([14, 20, 1], [1, 14, 20]), ([21, 19, 1], [1, 21]), ([22], [22]), ([23, 22], [22, 23]), ([22], [22]), ([25, 22], [22, 25]), ([26, 22, 22], [22, 26]), ([24, 27, 22], [22, 24, 27]), ([22, 28, 1], [1, 22, 28]), ([29, 27, 1], [1, 29]), ([30], [30]), ([31, 30], [30, 31]), ([30], [30]), ([33, 30], [30, 33]), ([34, 30, 30], [30, 34]), ([32, 35, 30], [30, 32, 35]), ([30, 36, 1], [1, 30, 36]), ([37, 35, 1], [1, 37]), ([38], [38]), ([39, 38], [38, 39]), ([38], [38]), ([41, 38], [38, 41]), ([42, 38, 38], [38, 42]), ([40, 43, 38], [38, 40, 43]), ([38, 44, 1], [1, 38, 44]), ([1, 45], [1, 45])])
def posternlaw15_SpanNarrow.B20 : List Nat := [0, 1, 3, 7, 3, 19, 63, 127, 255, 511, 255, 1279, 4095, 8191, 16383, 32767, 65535, 32767, 163839, 425983, 1048575, 2097151, 4194303, 8388607, 16777215, 8388607, 41943039, 109051903, 268435455, 536870911, 1073741823, 2147483647, 4294967295, 2147483647, 10737418239, 27917287423, 68719476735, 137438953471, 274877906943, 549755813887, 1099511627775, 549755813887, 2748779069439, 7146825580543, 17592186044415, 35184372088831, 70368744177663]
theorem posternlaw15_SpanNarrow.tab20 : rtab .any (opsOf Try.f9 20) = posternlaw15_SpanNarrow.T20 := by kernel_rfl
theorem posternlaw15_SpanNarrow.bits20 : waitsOk posternlaw15_SpanNarrow.T20.2 posternlaw15_SpanNarrow.B20 = true := by kernel_rfl
set_option maxHeartbeats 8000000 in
set_option maxRecDepth 100000 in
theorem posternlaw15_SpanNarrow.calls (k : Nat) (a0 : Int) (a1_0 : Int) (a1_1 : Int) (a1_2 : Int) (a1_3 : Int) (a2_0 : Int) (a2_1 : Int) (r : Bool) (w : World) (hr_ : Aside0 (r = true)) (h : posternlaw15_SpanNarrow.f k a0 a1_0 a1_1 a1_2 a1_3 a2_0 a2_1 = some r) :
  Calls Try.prog 9 #[.int .i64 a0, .agg #[.int .u64 a1_0, .int .u64 a1_1, .int .u64 a1_2, .int .u64 a1_3], .agg #[.int .u64 a2_0, .int .u64 a2_1]] w fun e w' => e = .returned (.bool r) ∧ Below w.heap.size w w' := by
 have hu63 := Try.underlying63
 have hu26 := Try.underlying26
 have hu58 := Try.underlying58
 have HB := Aside0.mk (Below.refl w.heap.size w)
 have H : ((posternlaw15_first.f k).bind fun t266 => (if t266 = true then ((posternref15_Member.f a1_0 a1_1 a2_0).bind fun t267 => ((posternref15_Member.f a1_2 a1_3 a2_1).bind fun t268 => ((some (([true, false] : List Bool) : List Bool)).bind fun y269 => (posternlaw15_SpanNarrow.l0 k a0 t267 t268 y269 (y269.length : Int) 0 a1_0 a1_1 a1_2 a1_3)))) else (some false))) = some r := h
 clear h; replace H := Option.bind_eq_some_iff.mp H; obtain ⟨t266, A40, H⟩ := H
 replace H : (if t266 = true then ((posternref15_Member.f a1_0 a1_1 a2_0).bind fun t267 => ((posternref15_Member.f a1_2 a1_3 a2_1).bind fun t268 => ((some (([true, false] : List Bool) : List Bool)).bind fun y269 => (posternlaw15_SpanNarrow.l0 k a0 t267 t268 y269 (y269.length : Int) 0 a1_0 a1_1 a1_2 a1_3)))) else (some false)) = some r := H
 have A4 := Aside0.mk A40; clear A40
 by_cases c5 : t266 = true
 ·
  subst c5
  have H1 : ((posternref15_Member.f a1_0 a1_1 a2_0).bind fun t267 => ((posternref15_Member.f a1_2 a1_3 a2_1).bind fun t268 => ((some (([true, false] : List Bool) : List Bool)).bind fun y269 => (posternlaw15_SpanNarrow.l0 k a0 t267 t268 y269 (y269.length : Int) 0 a1_0 a1_1 a1_2 a1_3)))) = some r := by rw [if_pos rfl] at H; exact H
  clear H; have H := H1; clear H1; replace H := Option.bind_eq_some_iff.mp H; obtain ⟨t267, A60, H⟩ := H
  replace H : ((posternref15_Member.f a1_2 a1_3 a2_1).bind fun t268 => ((some (([true, false] : List Bool) : List Bool)).bind fun y269 => (posternlaw15_SpanNarrow.l0 k a0 t267 t268 y269 (y269.length : Int) 0 a1_0 a1_1 a1_2 a1_3))) = some r := H
  have A6 := Aside0.mk A60; clear A60; replace H := Option.bind_eq_some_iff.mp H; obtain ⟨t268, A70, H⟩ := H
  replace H : ((some (([true, false] : List Bool) : List Bool)).bind fun y269 => (posternlaw15_SpanNarrow.l0 k a0 t267 t268 y269 (y269.length : Int) 0 a1_0 a1_1 a1_2 a1_3)) = some r := H
  have A7 := Aside0.mk A70; clear A70
  obtain ⟨y269, hy269⟩ : ∃ y_ : List Bool, y_ = (([true, false] : List Bool)) := ⟨_, rfl⟩
  replace H : (posternlaw15_SpanNarrow.l0 k a0 t267 t268 y269 (y269.length : Int) 0 a1_0 a1_1 a1_2 a1_3) = some r := by first | (rw [hy269]; with_reducible exact H) | (have H2_ := (Option.bind_some _ _).symm.trans H; rw [hy269]; with_reducible exact H2_) | (have H2_ := (Option.bind_some _ _).symm.trans H; with_reducible exact H2_) | with_reducible exact H | (rw [hy269]; exact H) | exact H
  have Ny269 := Aside0.mk hy269
  clear hy269; have H' := Aside0.mk H; clear H
  go_enter Try.func9, Try.ntmps9
  try go_wp2_with (first | ((with_reducible refine gate_dst (N := 4) rfl ?_); refine box_event ?hg (N := 4) ?hd (cs := #[.int .u64 a1_0, .int .u64 a1_1, .int .u64 a1_2, .int .u64 a1_3]) (t := 63) ?hr ?_; (case hd => rfl); (case hg => rfl); (case hr => first | (go_simp; done) | (go_simp; rfl)); intro gb264 hg w8 hbox hb; have n0_ := Aside0.mk (below_step (by repeat (first | (with_reducible first | exact HB.out | apply lA | apply lN | apply lD) | exact HB.out)) hb); have n1_ := Aside0.mk (hbox); have n2_ := Aside0.mk ((by rw [hg]; exact (below_size (by repeat (first | (with_reducible first | exact HB.out | apply lA | apply lN | apply lD) | exact HB.out))) : w.heap.size ≤ gb264)); have n3_ := n2_; clear HB; have HB := n0_; have BK264 := n1_; have GW264 := n2_; have GE264 := n3_; clear n0_ n1_ n2_ n3_; clear hb hbox hg) | ((with_reducible refine gate_dst (N := 5) rfl ?_); refine box_event ?hg (N := 5) ?hd (cs := #[.int .u64 a2_0, .int .u64 a2_1]) (t := 26) ?hr ?_; (case hd => rfl); (case hg => rfl); (case hr => first | (go_simp; done) | (go_simp; rfl)); intro gb265 hg w9 hbox hb; have n0_ := Aside0.mk (blk_below (g := gb264) (o := .cells #[.int .u64 a1_0, .int .u64 a1_1, .int .u64 a1_2, .int .u64 a1_3] 63 (0, 0)) (by (with_reducible repeat (first | apply bN | apply bD | apply bA)); exact BK264.out) hb); have n1_ := Aside0.mk (below_step (by repeat (first | (with_reducible first | exact HB.out | apply lA | apply lN | apply lD | refine lS ?_ ‹_›) | exact HB.out)) hb); have n2_ := Aside0.mk (hbox); have n3_ := Aside0.mk ((by rw [hg]; exact (below_size (by repeat (first | (with_reducible first | exact HB.out | apply lA | apply lN | apply lD | refine lS ?_ ‹_›) | exact HB.out))) : w.heap.size ≤ gb265)); have n4_ := n3_; have n5_ := Aside0.mk ((by rw [hg]; exact Nat.ne_of_lt (blk_lt (g := gb264) (o := .cells #[.int .u64 a1_0, .int .u64 a1_1, .int .u64 a1_2, .int .u64 a1_3] 63 (0, 0)) (by (with_reducible repeat (first | apply bN | apply bD | apply bA)); exact BK264.out)) : gb264 ≠ gb265)); have n6_ := sy n5_; clear BK264; clear HB; have BK264 := n0_; have HB := n1_; have BK265 := n2_; have GW265 := n3_; have GE265 := n4_; have NB264_265 := n5_; have NB265_264 := n6_; clear n0_ n1_ n2_ n3_ n4_ n5_ n6_; clear hb hbox hg) | ((with_reducible refine gate_callee (f := 29) rfl ?_); refine goesL_ (some 23) rfl rfl Try.func29 (by kernel_rfl) rfl #[] rfl (by (try simp only [List.map_toArray, List.map_cons, List.map_nil]); first | done | rfl | (simp only [List.length_drop, List.length_take]; rfl)) ?_; (with_reducible refine (posternlaw15_first.calls k  true _ A4.out).mono ?_); rintro e w10 ⟨rfl, hb⟩; refine ⟨_, rfl, ?_⟩; have n0_ := Aside0.mk (blk_below (g := gb264) (o := .cells #[.int .u64 a1_0, .int .u64 a1_1, .int .u64 a1_2, .int .u64 a1_3] 63 (0, 0)) (by (with_reducible repeat (first | apply bN | apply bD | apply bA)); exact BK264.out) hb); have n1_ := Aside0.mk (blk_below (g := gb265) (o := .cells #[.int .u64 a2_0, .int .u64 a2_1] 26 (0, 0)) (by (with_reducible repeat (first | apply bN | apply bD | apply bA)); exact BK265.out) hb); have n2_ := Aside0.mk (below_step (by repeat (first | (with_reducible first | exact HB.out | apply lA | apply lN | apply lD | refine lS ?_ ‹_›) | exact HB.out)) hb); clear BK264; clear BK265; clear HB; have BK264 := n0_; have BK265 := n1_; have HB := n2_; clear n0_ n1_ n2_; (try clear hb); (try clear hb2); (try clear hk); (try clear hi)))
  have n0_ := Aside0.mk (blk_drew BK264.out); have n1_ := Aside0.mk (blk_drew BK265.out)
  have n2_ := Aside0.mk (below_drew1 HB.out)
  clear BK264; clear BK265; clear HB; have BK264 := n0_; have BK265 := n1_; have HB := n2_; clear n0_ n1_ n2_
  refine start_ (n := 12) (S := fun w' => w'.cell? ⟨gb264, 0, none⟩ = some (.int .u64 a1_0) ∧ w'.cell? ⟨gb264, 1, none⟩ = some (.int .u64 a1_1) ∧ w'.cell? ⟨gb264, 2, none⟩ = some (.int .u64 a1_2) ∧ w'.cell? ⟨gb264, 3, none⟩ = some (.int .u64 a1_3) ∧ w'.cell? ⟨gb265, 0, none⟩ = some (.int .u64 a2_0) ∧ w'.cell? ⟨gb265, 1, none⟩ = some (.int .u64 a2_1)) (ds := []) #[z,z,z,z,z,z,z,z,z,z,z,z] (by kernel_rfl) rfl rfl ⟨(blk_cell BK264.out 0).trans rfl, (blk_cell BK264.out 1).trans rfl, (blk_cell BK264.out 2).trans rfl, (blk_cell BK264.out 3).trans rfl, (blk_cell BK265.out 0).trans rfl, (blk_cell BK265.out 1).trans rfl⟩ (fun hHeld => ?_); refine with_tabW posternlaw15_SpanNarrow.tab3 posternlaw15_SpanNarrow.bits3 (fun HT_ HW_ => ?_)
  generalize w10.drew = w11 at BK264 BK265 HB hHeld ⊢
  refine pure_ (i := 0) (N := some 25) (v := ?_) (a' := ?_) #[y,z,z,z,z,z,z,z,z,z,z,z] rfl rfl (any_of HT_.out (by kernel_rfl)) (fun _ _ _ h => h) (Or.inl ⟨by rfl, ?_⟩) ?_ ?_; rotate_left
  · intro w'; go_simp; with_reducible rfl
  rotate_left
  · simp only [Act.put, qT, q0, q1, i64_w, i32_w]; rfl
  refine pure_ (i := 2) (N := some 27) (v := ?_) (a' := ?_) #[y,z,y,z,z,z,z,z,z,z,z,z] rfl rfl (any_of HT_.out (by kernel_rfl)) (fun _ _ _ h => h) (Or.inl ⟨by rfl, ?_⟩) ?_ ?_; rotate_left
  · intro w'; go_simp; with_reducible rfl
  rotate_left
  · simp only [Act.put, qT, q0, q1, i64_w, i32_w]; rfl
  refine pure_ (i := 5) (N := some 30) (v := ?_) (a' := ?_) #[y,z,y,z,z,y,z,z,z,z,z,z] rfl rfl (any_of HT_.out (by kernel_rfl)) (fun _ _ _ h => h) (Or.inl ⟨by rfl, ?_⟩) ?_ ?_; rotate_left
  · intro w'; go_simp; with_reducible rfl
  rotate_left
  · simp only [Act.put, qT, q0, q1, i64_w, i32_w]; rfl
  refine pure_ (i := 7) (N := some 32) (v := ?_) (a' := ?_) #[y,z,y,z,z,y,z,y,z,z,z,z] rfl rfl (any_of HT_.out (by kernel_rfl)) (fun _ _ _ h => h) (Or.inl ⟨by rfl, ?_⟩) ?_ ?_; rotate_left
  · intro w'; go_simp; with_reducible rfl
  rotate_left
  · simp only [Act.put, qT, q0, q1, i64_w, i32_w]; rfl
  refine take_ (i := 1) (N := some 26) (v := ?_) (a' := ?_) #[y,y,y,z,z,y,z,y,z,z,z,z] rfl rfl (take_ofW HT_.out HW_.out (by kernel_rfl)) (fun _ _ _ h => h) (Or.inl ⟨by rfl, ?_⟩) hHeld ?_ ?_; rotate_left
  ·
   rintro w' ⟨s0, s1, s2, s3, s4, s5⟩
   go_simp; with_reducible rfl
  rotate_left
  · simp only [Act.put, qT, q0, q1, i64_w, i32_w]; rfl
  refine take_ (i := 3) (N := some 28) (v := ?_) (a' := ?_) #[y,y,y,y,z,y,z,y,z,z,z,z] rfl rfl (take_ofW HT_.out HW_.out (by kernel_rfl)) (fun _ _ _ h => h) (Or.inl ⟨by rfl, ?_⟩) hHeld ?_ ?_; rotate_left
  ·
   rintro w' ⟨s0, s1, s2, s3, s4, s5⟩
   go_simp; with_reducible rfl
  rotate_left
  · simp only [Act.put, qT, q0, q1, i64_w, i32_w]; rfl
  refine take_ (i := 6) (N := some 31) (v := ?_) (a' := ?_) #[y,y,y,y,z,y,y,y,z,z,z,z] rfl rfl (take_ofW HT_.out HW_.out (by kernel_rfl)) (fun _ _ _ h => h) (Or.inl ⟨by rfl, ?_⟩) hHeld ?_ ?_; rotate_left
  ·
   rintro w' ⟨s0, s1, s2, s3, s4, s5⟩
   go_simp; with_reducible rfl
  rotate_left
  · simp only [Act.put, qT, q0, q1, i64_w, i32_w]; rfl
  refine take_ (i := 8) (N := some 33) (v := ?_) (a' := ?_) #[y,y,y,y,z,y,y,y,y,z,z,z] rfl rfl (take_ofW HT_.out HW_.out (by kernel_rfl)) (fun _ _ _ h => h) (Or.inl ⟨by rfl, ?_⟩) hHeld ?_ ?_; rotate_left
  ·
   rintro w' ⟨s0, s1, s2, s3, s4, s5⟩
   go_simp; with_reducible rfl
  rotate_left
  · simp only [Act.put, qT, q0, q1, i64_w, i32_w]; rfl
  refine one_ (i := 4) (N := some 29) #[y,y,y,y,y,y,y,y,y,z,z,z] rfl rfl (one_of HT_.out (by kernel_rfl)) (by decide) (fun K hK => ?_)
  refine goes_ Try.func33 (by kernel_rfl) rfl #[.agg #[.int .u64 a1_0, .int .u64 a1_1], .int .u64 a2_0] (by rfl) rfl rfl (by (try simp only [List.map_toArray, List.map_cons, List.map_nil]); first | done | rfl | (simp only [List.length_drop, List.length_take]; rfl)) ?_
  with_reducible refine (posternref15_Member.calls a1_0 a1_1 a2_0 t267 _ A6.out).mono ?_
  rintro e w12 ⟨rfl, hb⟩; refine ⟨_, rfl, ?_⟩
  have n0_ := Aside0.mk (blk_below (g := gb264) (o := .cells #[.int .u64 a1_0, .int .u64 a1_1, .int .u64 a1_2, .int .u64 a1_3] 63 (0, 0)) (by (with_reducible repeat (first | apply bN | apply bD | apply bA)); exact BK264.out) hb)
  have n1_ := Aside0.mk (blk_below (g := gb265) (o := .cells #[.int .u64 a2_0, .int .u64 a2_1] 26 (0, 0)) (by (with_reducible repeat (first | apply bN | apply bD | apply bA)); exact BK265.out) hb)
  have n2_ := Aside0.mk (below_step (by repeat (first | (with_reducible first | exact HB.out | apply lA | apply lN | apply lD | refine lS ?_ ‹_›) | exact HB.out)) hb)
  clear BK264; clear BK265; clear HB; have BK264 := n0_; have BK265 := n1_; have HB := n2_; clear n0_ n1_ n2_; (try clear hb); (try clear hb2); (try clear hk); (try clear hi)
  refine hK.out _ _ ⟨(blk_cell BK264.out 0).trans rfl, (blk_cell BK264.out 1).trans rfl, (blk_cell BK264.out 2).trans rfl, (blk_cell BK264.out 3).trans rfl, (blk_cell BK265.out 0).trans rfl, (blk_cell BK265.out 1).trans rfl⟩ (fun hHeld => ?_)
  clear hK K
  refine norm_ (a' := ?_) ?_ ?_; rotate_left
  ·
   show Act.put _ (some 29) _ = _
   simp only [Act.put, qT, q0, q1, i64_w, i32_w]; rfl
  refine one_ (i := 9) (N := some 34) #[y,y,y,y,y,y,y,y,y,y,z,z] rfl rfl (one_of HT_.out (by kernel_rfl)) (by decide) (fun K hK => ?_)
  refine goes_ Try.func33 (by kernel_rfl) rfl #[.agg #[.int .u64 a1_2, .int .u64 a1_3], .int .u64 a2_1] (by rfl) rfl rfl (by (try simp only [List.map_toArray, List.map_cons, List.map_nil]); first | done | rfl | (simp only [List.length_drop, List.length_take]; rfl)) ?_
  with_reducible refine (posternref15_Member.calls a1_2 a1_3 a2_1 t268 _ A7.out).mono ?_
  rintro e w13 ⟨rfl, hb⟩; refine ⟨_, rfl, ?_⟩
  have n0_ := Aside0.mk (blk_below (g := gb264) (o := .cells #[.int .u64 a1_0, .int .u64 a1_1, .int .u64 a1_2, .int .u64 a1_3] 63 (0, 0)) (by (with_reducible repeat (first | apply bN | apply bD | apply bA)); exact BK264.out) hb)
  have n1_ := Aside0.mk (blk_below (g := gb265) (o := .cells #[.int .u64 a2_0, .int .u64 a2_1] 26 (0, 0)) (by (with_reducible repeat (first | apply bN | apply bD | apply bA)); exact BK265.out) hb)
  have n2_ := Aside0.mk (below_step (by repeat (first | (with_reducible first | exact HB.out | apply lA | apply lN | apply lD | refine lS ?_ ‹_›) | exact HB.out)) hb)
  clear BK264; clear BK265; clear HB; have BK264 := n0_; have BK265 := n1_; have HB := n2_; clear n0_ n1_ n2_; (try clear hb); (try clear hb2); (try clear hk); (try clear hi)
  refine hK.out _ _ ⟨(blk_cell BK264.out 0).trans rfl, (blk_cell BK264.out 1).trans rfl, (blk_cell BK264.out 2).trans rfl, (blk_cell BK264.out 3).trans rfl, (blk_cell BK265.out 0).trans rfl, (blk_cell BK265.out 1).trans rfl⟩ (fun hHeld => ?_)
  clear hK K
  refine norm_ (a' := ?_) ?_ ?_; rotate_left
  ·
   show Act.put _ (some 34) _ = _
   simp only [Act.put, qT, q0, q1, i64_w, i32_w]; rfl
  refine pure_ (i := 10) (N := some 7) (v := ?_) (a' := ?_) #[y,y,y,y,y,y,y,y,y,y,y,z] rfl rfl (any_of HT_.out (by kernel_rfl)) (fun _ _ _ h => h) (Or.inl ⟨by rfl, ?_⟩) ?_ ?_; rotate_left
  · intro w'; go_simp; with_reducible rfl
  rotate_left
  · simp only [Act.put, qT, q0, q1, i64_w, i32_w]; rfl
  refine pure_ (i := 11) (N := some 8) (v := ?_) (a' := ?_) #[y,y,y,y,y,y,y,y,y,y,y,y] rfl rfl (any_of HT_.out (by kernel_rfl)) (fun _ _ _ h => h) (Or.inl ⟨by rfl, ?_⟩) ?_ ?_; rotate_left
  · intro w'; go_simp; with_reducible rfl
  rotate_left
  · simp only [Act.put, qT, q0, q1, i64_w, i32_w]; rfl
  refine done_ (done_of HT_.out (by kernel_rfl)) ?_
  try go_wp2_with (first | ((with_reducible refine gate_dst (N := 35) rfl ?_); refine Kd.R_lit Kd.bool _ 4 ?hg (N := 35) ?hd (xs := ([true, false] : List Bool)) (inner := [.bool true, .bool false]) (ok := fun _ => True) (okp := fun _ => True) ?hr ?hp (fun _ hk => hk) trivial (Below.refl _ _) (Nat.le_refl _) (by simp) ?_; (case hd => rfl); (case hg => rfl); (case hr => first | (go_simp; done) | (go_simp; rfl)); (case hp => exact (Reps.one (show Kd.M Kd.bool _ _ _ true [.bool true] from rfl) (Reps.one (show Kd.M Kd.bool _ _ _ false [.bool false] from rfl) (Reps.none _ _)))); intro v270 w14 ho15 hb hg_ hnew_; clear hg_ hnew_; (first | rw [← Ny269.out] at ho15 | (simp only [Int.reduceToNat] at ho15; rw [← Ny269.out] at ho15)); have n0_ := Aside0.mk (Kd.R_lower ho15 (below_size (by repeat (first | (with_reducible first | exact HB.out | apply lA | apply lN | apply lD | refine lS ?_ ‹_›) | exact HB.out)))); have n1_ := Aside0.mk (blk_below (g := gb264) (o := .cells #[.int .u64 a1_0, .int .u64 a1_1, .int .u64 a1_2, .int .u64 a1_3] 63 (0, 0)) (by (with_reducible repeat (first | apply bN | apply bD | apply bA)); exact BK264.out) hb); have n2_ := Aside0.mk (blk_below (g := gb265) (o := .cells #[.int .u64 a2_0, .int .u64 a2_1] 26 (0, 0)) (by (with_reducible repeat (first | apply bN | apply bD | apply bA)); exact BK265.out) hb); have n3_ := Aside0.mk (below_step (by repeat (first | (with_reducible first | exact HB.out | apply lA | apply lN | apply lD | refine lS ?_ ‹_›) | exact HB.out)) hb); clear BK264; clear BK265; clear HB; have HO271 := n0_; have BK264 := n1_; have BK265 := n2_; have HB := n3_; clear n0_ n1_ n2_ n3_; clear hb ho15; obtain ⟨Ao16, co16, eo16⟩ := Kd.R_slice HO271.out; subst eo16))
  go_loopg [37] k (fun kq v37 w' => ∃ (x37_1 : Int), v37 = .int .i64 x37_1 ∧ Aside0 (posternlaw15_SpanNarrow.l0 kq a0 t267 t268 y269 (y269.length : Int) x37_1 a1_0 a1_1 a1_2 a1_3 = some r) ∧ Aside0 (kq ≤ k) ∧ Aside0 (Kd.R Kd.bool 4 w' w.heap.size (fun _ => True) (.slice Ao16 y269.length co16) y269) ∧ Aside0 (w'.heap[gb264]? = some (.cells #[.int .u64 a1_0, .int .u64 a1_1, .int .u64 a1_2, .int .u64 a1_3] 63 (0, 0))) ∧ Aside0 (w'.heap[gb265]? = some (.cells #[.int .u64 a2_0, .int .u64 a2_1] 26 (0, 0))) ∧ Aside0 (Below w.heap.size w w'))
  case atStart => exact ⟨(0), (by first | rfl | (simp; done) | (simp [*]; done)), H', ⟨Nat.le_refl _⟩, ⟨by (with_reducible repeat (first | apply Kd.R_alloc | apply Kd.R_drewN | apply Kd.R_drew)); exact HO271.out⟩, ⟨by (with_reducible repeat (first | apply bN | apply bD | apply bA)); exact BK264.out⟩, ⟨by (with_reducible repeat (first | apply bN | apply bD | apply bA)); exact BK265.out⟩, ⟨by repeat (first | (with_reducible first | exact HB.out | apply lA | apply lN | apply lD | refine lS ?_ ‹_›) | exact HB.out)⟩⟩
  case round => as_aux_lemma =>
   clear H'
   (try clear c2); (try clear p2)
   (try clear c3); (try clear c5)
   (try clear c9)
   obtain ⟨x37_1, rfl, HA, HK1, HO_35, BK264, BK265, HB⟩ := hrel
   cases gk with
   | zero => exact absurd HA.out (by simp [posternlaw15_SpanNarrow.l0])
   | succ k1 =>
    have H := HA.out
    clear HA
    simp only [posternlaw15_SpanNarrow.l0] at H
    by_cases c17 : x37_1 < (y269.length : Int)
    ·
     rw [if_pos c17] at H
     have c17b0 : decide (x37_1 < (y269.length : Int)) = true := decide_eq_true c17; clear c17
     by_cases c18 : 0 ≤ x37_1
     ·
      rw [if_pos c18] at H
      have c18b0 : decide (0 ≤ x37_1) = true := decide_eq_true c18; clear c18
      by_cases c19 : x37_1 < (y269.length : Int)
      ·
       rw [if_pos c19] at H
       have c19b0 : decide (x37_1 < (y269.length : Int)) = true := decide_eq_true c19; clear c19; replace H := Option.bind_eq_some_iff.mp H; obtain ⟨t273, A200, H⟩ := H
       replace H : ((posternref05_Holds.f k1 a0 t273 t267 t268).bind fun bt274 => ((some (([true, false] : List Bool) : List Bool)).bind fun y276 => (posternlaw15_SpanNarrow.l1 k1 a0 t267 t268 (rdOf false y269 x37_1) bt274.1 bt274.2 y269 (y269.length : Int) x37_1 y276 (y276.length : Int) 0 a1_0 a1_1 a1_2 a1_3))) = some r := H
       have A20 := Aside0.mk A200; clear A200; replace H := Option.bind_eq_some_iff.mp H; obtain ⟨⟨t274, t275⟩, A210, H⟩ := H
       replace H : ((some (([true, false] : List Bool) : List Bool)).bind fun y276 => (posternlaw15_SpanNarrow.l1 k1 a0 t267 t268 (rdOf false y269 x37_1) t274 t275 y269 (y269.length : Int) x37_1 y276 (y276.length : Int) 0 a1_0 a1_1 a1_2 a1_3)) = some r := H
       have A21 := Aside0.mk A210; clear A210
       obtain ⟨y276, hy276⟩ : ∃ y_ : List Bool, y_ = (([true, false] : List Bool)) := ⟨_, rfl⟩
       replace H : (posternlaw15_SpanNarrow.l1 k1 a0 t267 t268 (rdOf false y269 x37_1) t274 t275 y269 (y269.length : Int) x37_1 y276 (y276.length : Int) 0 a1_0 a1_1 a1_2 a1_3) = some r := by first | (rw [hy276]; with_reducible exact H) | (have H2_ := (Option.bind_some _ _).symm.trans H; rw [hy276]; with_reducible exact H2_) | (have H2_ := (Option.bind_some _ _).symm.trans H; with_reducible exact H2_) | with_reducible exact H | (rw [hy276]; exact H) | exact H
       have Ny276 := Aside0.mk hy276
       clear hy276; have H' := Aside0.mk H; clear H
       have p272 : 0 ≤ (x37_1 : Int) := of_decide_eq_true (by first | (with_reducible assumption) | assumption)
       have q272 : x37_1 < (y269.length : Int) := of_decide_eq_true (by first | (with_reducible assumption) | assumption)
       obtain ⟨ad272, e272, hx272_0⟩ := Kd.at_bool (Kd.R_reads' HO_35.out).2.2 x37_1 p272 q272
       cases e272
       replace p272 := eq_true p272
       replace q272 := eq_true q272
       go_wp2_with (first | ((with_reducible refine gate_callee (f := 35) rfl ?_); refine goesL_ (some 44) rfl rfl Try.func35 (by kernel_rfl) rfl #[.bool (rdOf false y269 x37_1)] rfl (by (try simp only [List.map_toArray, List.map_cons, List.map_nil]); first | done | rfl | (simp only [List.length_drop, List.length_take]; rfl)) ?_; (with_reducible refine (posternlaw15_size.calls (rdOf false y269 x37_1) t273 _ A20.out).mono ?_); rintro e w' ⟨rfl, ⟨nd, rfl⟩⟩; refine ⟨_, rfl, ?_⟩) | ((with_reducible refine gate_callee (f := 34) rfl ?_); refine goesL_ (some 47) rfl rfl Try.func34 (by kernel_rfl) rfl #[.int .i64 a0, .int .i64 t273, .int .u64 t267, .int .u64 t268] rfl (by (try simp only [List.map_toArray, List.map_cons, List.map_nil]); first | done | rfl | (simp only [List.length_drop, List.length_take]; rfl)) ?_; (with_reducible refine (posternref05_Holds.calls k1 a0 t273 t267 t268 t274 t275 _ A21.out).mono ?_); rintro e w' ⟨rfl, ⟨nd, rfl⟩⟩; refine ⟨_, rfl, ?_⟩) | ((with_reducible refine gate_dst (N := 50) rfl ?_); refine Kd.R_lit Kd.bool _ 4 ?hg (N := 50) ?hd (xs := ([true, false] : List Bool)) (inner := [.bool true, .bool false]) (ok := fun _ => True) (okp := fun _ => True) ?hr ?hp (fun _ hk => hk) trivial (Below.refl _ _) (Nat.le_refl _) (by simp) ?_; (case hd => rfl); (case hg => rfl); (case hr => first | (go_simp; done) | (go_simp; rfl)); (case hp => exact (Reps.one (show Kd.M Kd.bool _ _ _ true [.bool true] from rfl) (Reps.one (show Kd.M Kd.bool _ _ _ false [.bool false] from rfl) (Reps.none _ _)))); intro v277 w22 ho23 hb hg_ hnew_; clear hg_ hnew_; (first | rw [← Ny276.out] at ho23 | (simp only [Int.reduceToNat] at ho23; rw [← Ny276.out] at ho23)); have n0_ := Aside0.mk (Kd.R_elder' (by (with_reducible repeat (first | apply Kd.R_alloc | apply Kd.R_drewN | apply Kd.R_drew)); exact HO_35.out) (Kd.R_base ho23) hb); have n1_ := Aside0.mk (Kd.R_lower (Kd.R_new' ho23 (Kd.R_lt (by (with_reducible repeat (first | apply Kd.R_alloc | apply Kd.R_drewN | apply Kd.R_drew)); exact HO_35.out))) (below_size (by repeat (first | (with_reducible first | exact HB.out | apply lA | apply lN | apply lD | refine lS ?_ ‹_›) | exact HB.out)))); have n2_ := Aside0.mk (blk_below (g := gb264) (o := .cells #[.int .u64 a1_0, .int .u64 a1_1, .int .u64 a1_2, .int .u64 a1_3] 63 (0, 0)) (by (with_reducible repeat (first | apply bN | apply bD | apply bA)); exact BK264.out) hb); have n3_ := Aside0.mk (blk_below (g := gb265) (o := .cells #[.int .u64 a2_0, .int .u64 a2_1] 26 (0, 0)) (by (with_reducible repeat (first | apply bN | apply bD | apply bA)); exact BK265.out) hb); have n4_ := Aside0.mk (below_step (by repeat (first | (with_reducible first | exact HB.out | apply lA | apply lN | apply lD | refine lS ?_ ‹_›) | exact HB.out)) hb); clear HO_35; clear BK264; clear BK265; clear HB; have HO_35 := n0_; have HO278 := n1_; have BK264 := n2_; have BK265 := n3_; have HB := n4_; clear n0_ n1_ n2_ n3_ n4_; clear hb ho23; obtain ⟨Ao24, co24, eo24⟩ := Kd.R_slice HO278.out; subst eo24))
       go_loopg [52] k1 (fun kq v52 w' => ∃ (x52_2 : Int), v52 = .int .i64 x52_2 ∧ Aside0 (posternlaw15_SpanNarrow.l1 kq a0 t267 t268 (rdOf false y269 x37_1) t274 t275 y269 (y269.length : Int) x37_1 y276 (y276.length : Int) x52_2 a1_0 a1_1 a1_2 a1_3 = some r) ∧ Aside0 (kq ≤ k1) ∧ Aside0 (Kd.R Kd.bool 4 w' w.heap.size (fun k_ => some k_ ≠ ((.slice Ao24 y276.length co24) : Value).ownBlock) (.slice (some ad272) y269.length co16) y269) ∧ Aside0 (Kd.R Kd.bool 4 w' w.heap.size (fun k_ => some k_ ≠ ((.slice (some ad272) y269.length co16) : Value).ownBlock) (.slice Ao24 y276.length co24) y276) ∧ Aside0 (w'.heap[gb264]? = some (.cells #[.int .u64 a1_0, .int .u64 a1_1, .int .u64 a1_2, .int .u64 a1_3] 63 (0, 0))) ∧ Aside0 (w'.heap[gb265]? = some (.cells #[.int .u64 a2_0, .int .u64 a2_1] 26 (0, 0))) ∧ Aside0 (Below w.heap.size w w'))
       case atStart => exact ⟨(0), (by first | rfl | (simp; done) | (simp [*]; done)), H', ⟨Nat.le_refl _⟩, ⟨by (with_reducible repeat (first | apply Kd.R_alloc | apply Kd.R_drewN | apply Kd.R_drew)); exact Kd.R_mono HO_35.out (fun _ hk => hk.2)⟩, ⟨by (with_reducible repeat (first | apply Kd.R_alloc | apply Kd.R_drewN | apply Kd.R_drew)); exact Kd.R_mono HO278.out (fun _ hk => hk.2)⟩, ⟨by (with_reducible repeat (first | apply bN | apply bD | apply bA)); exact BK264.out⟩, ⟨by (with_reducible repeat (first | apply bN | apply bD | apply bA)); exact BK265.out⟩, ⟨by repeat (first | (with_reducible first | exact HB.out | apply lA | apply lN | apply lD | refine lS ?_ ‹_›) | exact HB.out)⟩⟩
       case round => as_aux_lemma =>
        clear H'
        (try clear c1); (try clear c2)
        (try clear p2); (try clear q2)
        (try clear hx2); (try clear c3)
        (try clear c5); (try clear c9)
        (try clear c17); (try clear c17b0)
        (try clear c18); (try clear c18b0)
        (try clear c19); (try clear c19b0)
        (try clear hx272_0); (try clear p2)
        (try clear p272); (try clear q272)
        obtain ⟨x52_2, rfl, HA, HK2, HO_35, HO_50, BK264, BK265, HB⟩ := hrel
        cases gk with
        | zero => exact absurd HA.out (by simp [posternlaw15_SpanNarrow.l1])
        | succ k2 =>
         have H := HA.out
         clear HA
         simp only [posternlaw15_SpanNarrow.l1] at H
         by_cases c25 : x52_2 < (y276.length : Int)
         ·
          rw [if_pos c25] at H
          have c25b0 : decide (x52_2 < (y276.length : Int)) = true := decide_eq_true c25; clear c25
          by_cases c26 : 0 ≤ x52_2
          ·
           rw [if_pos c26] at H
           have c26b0 : decide (0 ≤ x52_2) = true := decide_eq_true c26; clear c26
           by_cases c27 : x52_2 < (y276.length : Int)
           ·
            rw [if_pos c27] at H
            have c27b0 : decide (x52_2 < (y276.length : Int)) = true := decide_eq_true c27; clear c27; replace H := Option.bind_eq_some_iff.mp H; obtain ⟨⟨t280, t281, t282, t283, t284, t285⟩, A280, H⟩ := H
            replace H : ((span_Const.f t267).bind fun bt288 => ((span_Const.f t268).bind fun bt290 => ((span_Narrow.f k2 a0 (rdOf false y269 x37_1) (rdOf false y276 x52_2) bt288.1 bt288.2 bt290.1 bt290.2).bind fun bt292 => (if t275 = true then (if t285 = 0 then (if bt292.2.2.2.2.2 = 0 then (if (bt292.2.2.2.2.1 != (t274 == (rdOf false y276 x52_2))) = true then (posternlaw15_SpanNarrow.j2 k2 a0 t267 t268 (rdOf false y269 x37_1) t274 t275 (rdOf false y276 x52_2) t284 y269 (y269.length : Int) x37_1 y276 (y276.length : Int) x52_2 true a1_0 a1_1 a1_2 a1_3 t280 t281 t282 t283) else (if t284 = true then (posternlaw15_SpanNarrow.j2 k2 a0 t267 t268 (rdOf false y269 x37_1) t274 t275 (rdOf false y276 x52_2) t284 y269 (y269.length : Int) x37_1 y276 (y276.length : Int) x52_2 false a1_0 a1_1 a1_2 a1_3 t280 t281 t282 t283) else (if (!(t280 == 0) || (!(t281 == 0))) = true then (posternlaw15_SpanNarrow.j2 k2 a0 t267 t268 (rdOf false y269 x37_1) t274 t275 (rdOf false y276 x52_2) t284 y269 (y269.length : Int) x37_1 y276 (y276.length : Int) x52_2 true a1_0 a1_1 a1_2 a1_3 t280 t281 t282 t283) else (posternlaw15_SpanNarrow.j2 k2 a0 t267 t268 (rdOf false y269 x37_1) t274 t275 (rdOf false y276 x52_2) t284 y269 (y269.length : Int) x37_1 y276 (y276.length : Int) x52_2 (!(t282 == 0) || (!(t283 == 0))) a1_0 a1_1 a1_2 a1_3 t280 t281 t282 t283)))) else (posternlaw15_SpanNarrow.j2 k2 a0 t267 t268 (rdOf false y269 x37_1) t274 t275 (rdOf false y276 x52_2) t284 y269 (y269.length : Int) x37_1 y276 (y276.length : Int) x52_2 true a1_0 a1_1 a1_2 a1_3 t280 t281 t282 t283)) else (posternlaw15_SpanNarrow.j2 k2 a0 t267 t268 (rdOf false y269 x37_1) t274 t275 (rdOf false y276 x52_2) t284 y269 (y269.length : Int) x37_1 y276 (y276.length : Int) x52_2 true a1_0 a1_1 a1_2 a1_3 t280 t281 t282 t283)) else (if t285 = 2 then (if bt292.2.2.2.2.2 = 2 then (if t284 = true then (some false) else (if (!(t280 == 0) || (!(t281 == 0))) = true then (some false) else (if (!(t282 == 0) || (!(t283 == 0))) = true then (some false) else (posternlaw15_SpanNarrow.l1 k2 a0 t267 t268 (rdOf false y269 x37_1) t274 t275 y269 (y269.length : Int) x37_1 y276 (y276.length : Int) (wrap64 (x52_2 + 1)) a1_0 a1_1 a1_2 a1_3)))) else (some false)) else (some false)))))) = some r := H
            have A28 := Aside0.mk A280; clear A280; replace H := Option.bind_eq_some_iff.mp H; obtain ⟨⟨t288, t289⟩, A290, H⟩ := H
            replace H : ((span_Const.f t268).bind fun bt290 => ((span_Narrow.f k2 a0 (rdOf false y269 x37_1) (rdOf false y276 x52_2) t288 t289 bt290.1 bt290.2).bind fun bt292 => (if t275 = true then (if t285 = 0 then (if bt292.2.2.2.2.2 = 0 then (if (bt292.2.2.2.2.1 != (t274 == (rdOf false y276 x52_2))) = true then (posternlaw15_SpanNarrow.j2 k2 a0 t267 t268 (rdOf false y269 x37_1) t274 t275 (rdOf false y276 x52_2) t284 y269 (y269.length : Int) x37_1 y276 (y276.length : Int) x52_2 true a1_0 a1_1 a1_2 a1_3 t280 t281 t282 t283) else (if t284 = true then (posternlaw15_SpanNarrow.j2 k2 a0 t267 t268 (rdOf false y269 x37_1) t274 t275 (rdOf false y276 x52_2) t284 y269 (y269.length : Int) x37_1 y276 (y276.length : Int) x52_2 false a1_0 a1_1 a1_2 a1_3 t280 t281 t282 t283) else (if (!(t280 == 0) || (!(t281 == 0))) = true then (posternlaw15_SpanNarrow.j2 k2 a0 t267 t268 (rdOf false y269 x37_1) t274 t275 (rdOf false y276 x52_2) t284 y269 (y269.length : Int) x37_1 y276 (y276.length : Int) x52_2 true a1_0 a1_1 a1_2 a1_3 t280 t281 t282 t283) else (posternlaw15_SpanNarrow.j2 k2 a0 t267 t268 (rdOf false y269 x37_1) t274 t275 (rdOf false y276 x52_2) t284 y269 (y269.length : Int) x37_1 y276 (y276.length : Int) x52_2 (!(t282 == 0) || (!(t283 == 0))) a1_0 a1_1 a1_2 a1_3 t280 t281 t282 t283)))) else (posternlaw15_SpanNarrow.j2 k2 a0 t267 t268 (rdOf false y269 x37_1) t274 t275 (rdOf false y276 x52_2) t284 y269 (y269.length : Int) x37_1 y276 (y276.length : Int) x52_2 true a1_0 a1_1 a1_2 a1_3 t280 t281 t282 t283)) else (posternlaw15_SpanNarrow.j2 k2 a0 t267 t268 (rdOf false y269 x37_1) t274 t275 (rdOf false y276 x52_2) t284 y269 (y269.length : Int) x37_1 y276 (y276.length : Int) x52_2 true a1_0 a1_1 a1_2 a1_3 t280 t281 t282 t283)) else (if t285 = 2 then (if bt292.2.2.2.2.2 = 2 then (if t284 = true then (some false) else (if (!(t280 == 0) || (!(t281 == 0))) = true then (some false) else (if (!(t282 == 0) || (!(t283 == 0))) = true then (some false) else (posternlaw15_SpanNarrow.l1 k2 a0 t267 t268 (rdOf false y269 x37_1) t274 t275 y269 (y269.length : Int) x37_1 y276 (y276.length : Int) (wrap64 (x52_2 + 1)) a1_0 a1_1 a1_2 a1_3)))) else (some false)) else (some false))))) = some r := H
            have A29 := Aside0.mk A290; clear A290; replace H := Option.bind_eq_some_iff.mp H; obtain ⟨⟨t290, t291⟩, A300, H⟩ := H
            replace H : ((span_Narrow.f k2 a0 (rdOf false y269 x37_1) (rdOf false y276 x52_2) t288 t289 t290 t291).bind fun bt292 => (if t275 = true then (if t285 = 0 then (if bt292.2.2.2.2.2 = 0 then (if (bt292.2.2.2.2.1 != (t274 == (rdOf false y276 x52_2))) = true then (posternlaw15_SpanNarrow.j2 k2 a0 t267 t268 (rdOf false y269 x37_1) t274 t275 (rdOf false y276 x52_2) t284 y269 (y269.length : Int) x37_1 y276 (y276.length : Int) x52_2 true a1_0 a1_1 a1_2 a1_3 t280 t281 t282 t283) else (if t284 = true then (posternlaw15_SpanNarrow.j2 k2 a0 t267 t268 (rdOf false y269 x37_1) t274 t275 (rdOf false y276 x52_2) t284 y269 (y269.length : Int) x37_1 y276 (y276.length : Int) x52_2 false a1_0 a1_1 a1_2 a1_3 t280 t281 t282 t283) else (if (!(t280 == 0) || (!(t281 == 0))) = true then (posternlaw15_SpanNarrow.j2 k2 a0 t267 t268 (rdOf false y269 x37_1) t274 t275 (rdOf false y276 x52_2) t284 y269 (y269.length : Int) x37_1 y276 (y276.length : Int) x52_2 true a1_0 a1_1 a1_2 a1_3 t280 t281 t282 t283) else (posternlaw15_SpanNarrow.j2 k2 a0 t267 t268 (rdOf false y269 x37_1) t274 t275 (rdOf false y276 x52_2) t284 y269 (y269.length : Int) x37_1 y276 (y276.length : Int) x52_2 (!(t282 == 0) || (!(t283 == 0))) a1_0 a1_1 a1_2 a1_3 t280 t281 t282 t283)))) else (posternlaw15_SpanNarrow.j2 k2 a0 t267 t268 (rdOf false y269 x37_1) t274 t275 (rdOf false y276 x52_2) t284 y269 (y269.length : Int) x37_1 y276 (y276.length : Int) x52_2 true a1_0 a1_1 a1_2 a1_3 t280 t281 t282 t283)) else (posternlaw15_SpanNarrow.j2 k2 a0 t267 t268 (rdOf false y269 x37_1) t274 t275 (rdOf false y276 x52_2) t284 y269 (y269.length : Int) x37_1 y276 (y276.length : Int) x52_2 true a1_0 a1_1 a1_2 a1_3 t280 t281 t282 t283)) else (if t285 = 2 then (if bt292.2.2.2.2.2 = 2 then (if t284 = true then (some false) else (if (!(t280 == 0) || (!(t281 == 0))) = true then (some false) else (if (!(t282 == 0) || (!(t283 == 0))) = true then (some false) else (posternlaw15_SpanNarrow.l1 k2 a0 t267 t268 (rdOf false y269 x37_1) t274 t275 y269 (y269.length : Int) x37_1 y276 (y276.length : Int) (wrap64 (x52_2 + 1)) a1_0 a1_1 a1_2 a1_3)))) else (some false)) else (some false)))) = some r := H
            have A30 := Aside0.mk A300; clear A300; replace H := Option.bind_eq_some_iff.mp H; obtain ⟨⟨t292, t293, t294, t295, t296, t297⟩, A310, H⟩ := H
            replace H : (if t275 = true then (if t285 = 0 then (if t297 = 0 then (if (t296 != (t274 == (rdOf false y276 x52_2))) = true then (posternlaw15_SpanNarrow.j2 k2 a0 t267 t268 (rdOf false y269 x37_1) t274 t275 (rdOf false y276 x52_2) t284 y269 (y269.length : Int) x37_1 y276 (y276.length : Int) x52_2 true a1_0 a1_1 a1_2 a1_3 t280 t281 t282 t283) else (if t284 = true then (posternlaw15_SpanNarrow.j2 k2 a0 t267 t268 (rdOf false y269 x37_1) t274 t275 (rdOf false y276 x52_2) t284 y269 (y269.length : Int) x37_1 y276 (y276.length : Int) x52_2 false a1_0 a1_1 a1_2 a1_3 t280 t281 t282 t283) else (if (!(t280 == 0) || (!(t281 == 0))) = true then (posternlaw15_SpanNarrow.j2 k2 a0 t267 t268 (rdOf false y269 x37_1) t274 t275 (rdOf false y276 x52_2) t284 y269 (y269.length : Int) x37_1 y276 (y276.length : Int) x52_2 true a1_0 a1_1 a1_2 a1_3 t280 t281 t282 t283) else (posternlaw15_SpanNarrow.j2 k2 a0 t267 t268 (rdOf false y269 x37_1) t274 t275 (rdOf false y276 x52_2) t284 y269 (y269.length : Int) x37_1 y276 (y276.length : Int) x52_2 (!(t282 == 0) || (!(t283 == 0))) a1_0 a1_1 a1_2 a1_3 t280 t281 t282 t283)))) else (posternlaw15_SpanNarrow.j2 k2 a0 t267 t268 (rdOf false y269 x37_1) t274 t275 (rdOf false y276 x52_2) t284 y269 (y269.length : Int) x37_1 y276 (y276.length : Int) x52_2 true a1_0 a1_1 a1_2 a1_3 t280 t281 t282 t283)) else (posternlaw15_SpanNarrow.j2 k2 a0 t267 t268 (rdOf false y269 x37_1) t274 t275 (rdOf false y276 x52_2) t284 y269 (y269.length : Int) x37_1 y276 (y276.length : Int) x52_2 true a1_0 a1_1 a1_2 a1_3 t280 t281 t282 t283)) else (if t285 = 2 then (if t297 = 2 then (if t284 = true then (some false) else (if (!(t280 == 0) || (!(t281 == 0))) = true then (some false) else (if (!(t282 == 0) || (!(t283 == 0))) = true then (some false) else (posternlaw15_SpanNarrow.l1 k2 a0 t267 t268 (rdOf false y269 x37_1) t274 t275 y269 (y269.length : Int) x37_1 y276 (y276.length : Int) (wrap64 (x52_2 + 1)) a1_0 a1_1 a1_2 a1_3)))) else (some false)) else (some false))) = some r := H
            have A31 := Aside0.mk A310; clear A310
            by_cases c32 : t275 = true
            ·
             subst c32
             have H1 : (if t285 = 0 then (if t297 = 0 then (if (t296 != (t274 == (rdOf false y276 x52_2))) = true then (posternlaw15_SpanNarrow.j2 k2 a0 t267 t268 (rdOf false y269 x37_1) t274 true (rdOf false y276 x52_2) t284 y269 (y269.length : Int) x37_1 y276 (y276.length : Int) x52_2 true a1_0 a1_1 a1_2 a1_3 t280 t281 t282 t283) else (if t284 = true then (posternlaw15_SpanNarrow.j2 k2 a0 t267 t268 (rdOf false y269 x37_1) t274 true (rdOf false y276 x52_2) t284 y269 (y269.length : Int) x37_1 y276 (y276.length : Int) x52_2 false a1_0 a1_1 a1_2 a1_3 t280 t281 t282 t283) else (if (!(t280 == 0) || (!(t281 == 0))) = true then (posternlaw15_SpanNarrow.j2 k2 a0 t267 t268 (rdOf false y269 x37_1) t274 true (rdOf false y276 x52_2) t284 y269 (y269.length : Int) x37_1 y276 (y276.length : Int) x52_2 true a1_0 a1_1 a1_2 a1_3 t280 t281 t282 t283) else (posternlaw15_SpanNarrow.j2 k2 a0 t267 t268 (rdOf false y269 x37_1) t274 true (rdOf false y276 x52_2) t284 y269 (y269.length : Int) x37_1 y276 (y276.length : Int) x52_2 (!(t282 == 0) || (!(t283 == 0))) a1_0 a1_1 a1_2 a1_3 t280 t281 t282 t283)))) else (posternlaw15_SpanNarrow.j2 k2 a0 t267 t268 (rdOf false y269 x37_1) t274 true (rdOf false y276 x52_2) t284 y269 (y269.length : Int) x37_1 y276 (y276.length : Int) x52_2 true a1_0 a1_1 a1_2 a1_3 t280 t281 t282 t283)) else (posternlaw15_SpanNarrow.j2 k2 a0 t267 t268 (rdOf false y269 x37_1) t274 true (rdOf false y276 x52_2) t284 y269 (y269.length : Int) x37_1 y276 (y276.length : Int) x52_2 true a1_0 a1_1 a1_2 a1_3 t280 t281 t282 t283)) = some r := by rw [if_pos rfl] at H; exact H
             clear H; have H := H1; clear H1
             have HC33 := Aside0.mk H
             clear H
             have p279 : 0 ≤ (x52_2 : Int) := of_decide_eq_true (by first | (with_reducible assumption) | assumption)
             have q279 : x52_2 < (y276.length : Int) := of_decide_eq_true (by first | (with_reducible assumption) | assumption)
             obtain ⟨ad279, e279, hx279_0⟩ := Kd.at_bool (Kd.R_reads' HO_50.out).2.2 x52_2 p279 q279
             cases e279
             replace p279 := eq_true p279
             replace q279 := eq_true q279
             have hnb34 := NB264_265.out; have hnc34 := NB265_264.out; have hcz35_0 : wr.cell? ⟨gb264, 0, none⟩ = some (.int .u64 a1_0) := (blk_cell BK264.out 0).trans rfl; have hcz35_1 : wr.cell? ⟨gb264, 1, none⟩ = some (.int .u64 a1_1) := (blk_cell BK264.out 1).trans rfl; have hcz35_2 : wr.cell? ⟨gb264, 2, none⟩ = some (.int .u64 a1_2) := (blk_cell BK264.out 2).trans rfl; have hcz35_3 : wr.cell? ⟨gb264, 3, none⟩ = some (.int .u64 a1_3) := (blk_cell BK264.out 3).trans rfl; have hfz35_0 := blk_frozen BK264.out 0; have hfz35_1 := blk_frozen BK264.out 1; have hfz35_2 := blk_frozen BK264.out 2; have hfz35_3 := blk_frozen BK264.out 3
             go_upto_region 16 with (first | ((with_reducible refine gate_callee (f := 36) rfl ?_); refine goesL_ (some 64) rfl rfl Try.func36 (by kernel_rfl) rfl #[.int .i64 a0, .bool (rdOf false y269 x37_1), .bool (rdOf false y276 x52_2), .agg #[.int .u64 a1_0, .int .u64 a1_1], .agg #[.int .u64 a1_2, .int .u64 a1_3]] rfl (by (try simp only [List.map_toArray, List.map_cons, List.map_nil]); first | done | rfl | (simp only [List.length_drop, List.length_take]; rfl)) ?_; (with_reducible refine (span_Narrow.calls k2 a0 (rdOf false y269 x37_1) (rdOf false y276 x52_2) a1_0 a1_1 a1_2 a1_3 t280 t281 t282 t283 t284 t285 _ A28.out).mono ?_); rintro e w36 ⟨rfl, hb⟩; refine ⟨_, rfl, ?_⟩; have n0_ := Aside0.mk (Kd.R_below (by (with_reducible repeat (first | apply Kd.R_alloc | apply Kd.R_drewN | apply Kd.R_drew)); exact HO_35.out) hb); have n1_ := Aside0.mk (Kd.R_below (by (with_reducible repeat (first | apply Kd.R_alloc | apply Kd.R_drewN | apply Kd.R_drew)); exact HO_50.out) hb); have n2_ := Aside0.mk (blk_below (g := gb264) (o := .cells #[.int .u64 a1_0, .int .u64 a1_1, .int .u64 a1_2, .int .u64 a1_3] 63 (0, 0)) (by (with_reducible repeat (first | apply bN | apply bD | apply bA)); exact BK264.out) hb); have n3_ := Aside0.mk (blk_below (g := gb265) (o := .cells #[.int .u64 a2_0, .int .u64 a2_1] 26 (0, 0)) (by (with_reducible repeat (first | apply bN | apply bD | apply bA)); exact BK265.out) hb); have n4_ := Aside0.mk (below_step (by repeat (first | (with_reducible first | exact HB.out | apply lA | apply lN | apply lD | refine lS ?_ ‹_›) | exact HB.out)) hb); clear HO_35; clear HO_50; clear BK264; clear BK265; clear HB; have HO_35 := n0_; have HO_50 := n1_; have BK264 := n2_; have BK265 := n3_; have HB := n4_; clear n0_ n1_ n2_ n3_ n4_; (try clear hb); (try clear hb2); (try clear hk); (try clear hi)) | ((with_reducible refine gate_dst (N := 15) rfl ?_); refine box_event ?hg (N := 15) ?hd (cs := #[.int .u64 0, .int .u64 0]) (t := 58) ?hr ?_; (case hd => rfl); (case hg => rfl); (case hr => first | (go_simp; done) | (go_simp; rfl)); intro gb286 hg w37 hbox hb; have n0_ := Aside0.mk (Kd.R_below (by (with_reducible repeat (first | apply Kd.R_alloc | apply Kd.R_drewN | apply Kd.R_drew)); exact HO_35.out) hb); have n1_ := Aside0.mk (Kd.R_below (by (with_reducible repeat (first | apply Kd.R_alloc | apply Kd.R_drewN | apply Kd.R_drew)); exact HO_50.out) hb); have n2_ := Aside0.mk (blk_below (g := gb264) (o := .cells #[.int .u64 a1_0, .int .u64 a1_1, .int .u64 a1_2, .int .u64 a1_3] 63 (0, 0)) (by (with_reducible repeat (first | apply bN | apply bD | apply bA)); exact BK264.out) hb); have n3_ := Aside0.mk (blk_below (g := gb265) (o := .cells #[.int .u64 a2_0, .int .u64 a2_1] 26 (0, 0)) (by (with_reducible repeat (first | apply bN | apply bD | apply bA)); exact BK265.out) hb); have n4_ := Aside0.mk (below_step (by repeat (first | (with_reducible first | exact HB.out | apply lA | apply lN | apply lD | refine lS ?_ ‹_›) | exact HB.out)) hb); have n5_ := Aside0.mk (hbox); have n6_ := Aside0.mk ((by rw [hg]; exact (below_size (by repeat (first | (with_reducible first | exact HB.out | apply lA | apply lN | apply lD | refine lS ?_ ‹_›) | exact HB.out))) : w.heap.size ≤ gb286)); have n7_ := n6_; have n8_ := Aside0.mk ((by rw [hg]; exact Nat.ne_of_lt (blk_lt (g := gb264) (o := .cells #[.int .u64 a1_0, .int .u64 a1_1, .int .u64 a1_2, .int .u64 a1_3] 63 (0, 0)) (by (with_reducible repeat (first | apply bN | apply bD | apply bA)); exact BK264.out)) : gb264 ≠ gb286)); have n9_ := sy n8_; have n10_ := Aside0.mk ((by rw [hg]; exact Nat.ne_of_lt (blk_lt (g := gb265) (o := .cells #[.int .u64 a2_0, .int .u64 a2_1] 26 (0, 0)) (by (with_reducible repeat (first | apply bN | apply bD | apply bA)); exact BK265.out)) : gb265 ≠ gb286)); have n11_ := sy n10_; clear HO_35; clear HO_50; clear BK264; clear BK265; clear HB; have HO_35 := n0_; have HO_50 := n1_; have BK264 := n2_; have BK265 := n3_; have HB := n4_; have BK286 := n5_; have GW286 := n6_; have GE286 := n7_; have NB264_286 := n8_; have NB286_264 := n9_; have NB265_286 := n10_; have NB286_265 := n11_; clear n0_ n1_ n2_ n3_ n4_ n5_ n6_ n7_ n8_ n9_ n10_ n11_; clear hb hbox hg) | ((with_reducible refine gate_dst (N := 16) rfl ?_); refine box_event ?hg (N := 16) ?hd (cs := #[.int .u64 0, .int .u64 0]) (t := 58) ?hr ?_; (case hd => rfl); (case hg => rfl); (case hr => first | (go_simp; done) | (go_simp; rfl)); intro gb287 hg w38 hbox hb; have n0_ := Aside0.mk (Kd.R_below (by (with_reducible repeat (first | apply Kd.R_alloc | apply Kd.R_drewN | apply Kd.R_drew)); exact HO_35.out) hb); have n1_ := Aside0.mk (Kd.R_below (by (with_reducible repeat (first | apply Kd.R_alloc | apply Kd.R_drewN | apply Kd.R_drew)); exact HO_50.out) hb); have n2_ := Aside0.mk (blk_below (g := gb264) (o := .cells #[.int .u64 a1_0, .int .u64 a1_1, .int .u64 a1_2, .int .u64 a1_3] 63 (0, 0)) (by (with_reducible repeat (first | apply bN | apply bD | apply bA)); exact BK264.out) hb); have n3_ := Aside0.mk (blk_below (g := gb265) (o := .cells #[.int .u64 a2_0, .int .u64 a2_1] 26 (0, 0)) (by (with_reducible repeat (first | apply bN | apply bD | apply bA)); exact BK265.out) hb); have n4_ := Aside0.mk (blk_below (g := gb286) (o := .cells #[.int .u64 0, .int .u64 0] 58 (0, 0)) (by (with_reducible repeat (first | apply bN | apply bD | apply bA)); exact BK286.out) hb); have n5_ := Aside0.mk (below_step (by repeat (first | (with_reducible first | exact HB.out | apply lA | apply lN | apply lD | refine lS ?_ ‹_›) | exact HB.out)) hb); have n6_ := Aside0.mk (hbox); have n7_ := Aside0.mk ((by rw [hg]; exact (below_size (by repeat (first | (with_reducible first | exact HB.out | apply lA | apply lN | apply lD | refine lS ?_ ‹_›) | exact HB.out))) : w.heap.size ≤ gb287)); have n8_ := n7_; have n9_ := Aside0.mk ((by rw [hg]; exact Nat.ne_of_lt (blk_lt (g := gb264) (o := .cells #[.int .u64 a1_0, .int .u64 a1_1, .int .u64 a1_2, .int .u64 a1_3] 63 (0, 0)) (by (with_reducible repeat (first | apply bN | apply bD | apply bA)); exact BK264.out)) : gb264 ≠ gb287)); have n10_ := sy n9_; have n11_ := Aside0.mk ((by rw [hg]; exact Nat.ne_of_lt (blk_lt (g := gb265) (o := .cells #[.int .u64 a2_0, .int .u64 a2_1] 26 (0, 0)) (by (with_reducible repeat (first | apply bN | apply bD | apply bA)); exact BK265.out)) : gb265 ≠ gb287)); have n12_ := sy n11_; have n13_ := Aside0.mk ((by rw [hg]; exact Nat.ne_of_lt (blk_lt (g := gb286) (o := .cells #[.int .u64 0, .int .u64 0] 58 (0, 0)) (by (with_reducible repeat (first | apply bN | apply bD | apply bA)); exact BK286.out)) : gb286 ≠ gb287)); have n14_ := sy n13_; clear HO_35; clear HO_50; clear BK264; clear BK265; clear BK286; clear HB; have HO_35 := n0_; have HO_50 := n1_; have BK264 := n2_; have BK265 := n3_; have BK286 := n4_; have HB := n5_; have BK287 := n6_; have GW287 := n7_; have GE287 := n8_; have NB264_287 := n9_; have NB287_264 := n10_; have NB265_287 := n11_; have NB287_265 := n12_; have NB286_287 := n13_; have NB287_286 := n14_; clear n0_ n1_ n2_ n3_ n4_ n5_ n6_ n7_ n8_ n9_ n10_ n11_ n12_ n13_ n14_; clear hb hbox hg; have hnb39 := NB286_264.out; have hnc39 := NB264_286.out; have hnb40 := NB286_265.out; have hnc40 := NB265_286.out; have hnb41 := NB286_287.out; have hnc41 := NB287_286.out; have hcz42_0 : w38.cell? ⟨gb286, 0, none⟩ = some (.int .u64 0) := (blk_cell BK286.out 0).trans rfl; have hcz42_1 : w38.cell? ⟨gb286, 1, none⟩ = some (.int .u64 0) := (blk_cell BK286.out 1).trans rfl; have hfz42_0 := blk_frozen BK286.out 0; have hfz42_1 := blk_frozen BK286.out 1; have hnb43 := NB287_264.out; have hnc43 := NB264_287.out; have hnb44 := NB287_265.out; have hnc44 := NB265_287.out; have hcz45_0 : w38.cell? ⟨gb287, 0, none⟩ = some (.int .u64 0) := (blk_cell BK287.out 0).trans rfl; have hcz45_1 : w38.cell? ⟨gb287, 1, none⟩ = some (.int .u64 0) := (blk_cell BK287.out 1).trans rfl; have hfz45_0 := blk_frozen BK287.out 0; have hfz45_1 := blk_frozen BK287.out 1) | ((with_reducible refine gate_callee (f := 37) rfl ?_); refine goesL_ (some 74) rfl rfl Try.func37 (by kernel_rfl) rfl #[.int .u64 t267] rfl (by (try simp only [List.map_toArray, List.map_cons, List.map_nil]); first | done | rfl | (simp only [List.length_drop, List.length_take]; rfl)) ?_; (with_reducible refine (span_Const.calls t267 t288 t289 _ A29.out).mono ?_); rintro e w46 ⟨rfl, hb⟩; refine ⟨_, rfl, ?_⟩; have n0_ := Aside0.mk (Kd.R_below (by (with_reducible repeat (first | apply Kd.R_alloc | apply Kd.R_drewN | apply Kd.R_drew)); exact (Kd.R_mono (Kd.R_mono (Kd.R_far (p := ⟨gb287, 1, none⟩) (Kd.R_far (p := ⟨gb287, 0, none⟩) (Kd.R_far (p := ⟨gb286, 1, none⟩) (Kd.R_far (p := ⟨gb286, 0, none⟩) (Kd.R_types (Kd.R_types HO_35.out BK286.out (by decide)) BK287.out (by decide)) (fun _ hk => hk.1.2) (.int .u64 t280)) (fun _ hk => hk.1.2) (.int .u64 t281)) (fun _ hk => hk.2) (.int .u64 t282)) (fun _ hk => hk.2) (.int .u64 t283)) (fun _ h_ => h_.1)) (fun _ h_ => h_.1))) hb); have n1_ := Aside0.mk (Kd.R_below (by (with_reducible repeat (first | apply Kd.R_alloc | apply Kd.R_drewN | apply Kd.R_drew)); exact (Kd.R_mono (Kd.R_mono (Kd.R_far (p := ⟨gb287, 1, none⟩) (Kd.R_far (p := ⟨gb287, 0, none⟩) (Kd.R_far (p := ⟨gb286, 1, none⟩) (Kd.R_far (p := ⟨gb286, 0, none⟩) (Kd.R_types (Kd.R_types HO_50.out BK286.out (by decide)) BK287.out (by decide)) (fun _ hk => hk.1.2) (.int .u64 t280)) (fun _ hk => hk.1.2) (.int .u64 t281)) (fun _ hk => hk.2) (.int .u64 t282)) (fun _ hk => hk.2) (.int .u64 t283)) (fun _ h_ => h_.1)) (fun _ h_ => h_.1))) hb); have n2_ := Aside0.mk (blk_below (g := gb264) (o := .cells #[.int .u64 a1_0, .int .u64 a1_1, .int .u64 a1_2, .int .u64 a1_3] 63 (0, 0)) (by (with_reducible repeat (first | apply bN | apply bD | apply bA)); refine blk_far ?_ NB264_287.out _; (with_reducible repeat (first | apply bN | apply bD | apply bA)); refine blk_far ?_ NB264_287.out _; (with_reducible repeat (first | apply bN | apply bD | apply bA)); refine blk_far ?_ NB264_286.out _; (with_reducible repeat (first | apply bN | apply bD | apply bA)); refine blk_far ?_ NB264_286.out _; (with_reducible repeat (first | apply bN | apply bD | apply bA)); exact BK264.out) hb); have n3_ := Aside0.mk (blk_below (g := gb265) (o := .cells #[.int .u64 a2_0, .int .u64 a2_1] 26 (0, 0)) (by (with_reducible repeat (first | apply bN | apply bD | apply bA)); refine blk_far ?_ NB265_287.out _; (with_reducible repeat (first | apply bN | apply bD | apply bA)); refine blk_far ?_ NB265_287.out _; (with_reducible repeat (first | apply bN | apply bD | apply bA)); refine blk_far ?_ NB265_286.out _; (with_reducible repeat (first | apply bN | apply bD | apply bA)); refine blk_far ?_ NB265_286.out _; (with_reducible repeat (first | apply bN | apply bD | apply bA)); exact BK265.out) hb); have n4_ := Aside0.mk (blk_below (g := gb286) (o := .cells #[.int .u64 t280, .int .u64 t281] 58 (0, 0)) (by (with_reducible repeat (first | apply bN | apply bD | apply bA)); refine blk_far ?_ NB286_287.out _; (with_reducible repeat (first | apply bN | apply bD | apply bA)); refine blk_far ?_ NB286_287.out _; (with_reducible repeat (first | apply bN | apply bD | apply bA)); refine blk_put (cs := #[.int .u64 t280, .int .u64 0]) ?_ 1 _ rfl; (with_reducible repeat (first | apply bN | apply bD | apply bA)); refine blk_put (cs := #[.int .u64 0, .int .u64 0]) ?_ 0 _ rfl; (with_reducible repeat (first | apply bN | apply bD | apply bA)); exact BK286.out) hb); have n5_ := Aside0.mk (blk_below (g := gb287) (o := .cells #[.int .u64 t282, .int .u64 t283] 58 (0, 0)) (by (with_reducible repeat (first | apply bN | apply bD | apply bA)); refine blk_put (cs := #[.int .u64 t282, .int .u64 0]) ?_ 1 _ rfl; (with_reducible repeat (first | apply bN | apply bD | apply bA)); refine blk_put (cs := #[.int .u64 0, .int .u64 0]) ?_ 0 _ rfl; (with_reducible repeat (first | apply bN | apply bD | apply bA)); refine blk_far ?_ NB287_286.out _; (with_reducible repeat (first | apply bN | apply bD | apply bA)); refine blk_far ?_ NB287_286.out _; (with_reducible repeat (first | apply bN | apply bD | apply bA)); exact BK287.out) hb); have n6_ := Aside0.mk (below_step (by repeat (first | (with_reducible first | exact HB.out | apply lA | apply lN | apply lD | refine lS ?_ ‹_›) | exact HB.out)) hb); clear HO_35; clear HO_50; clear BK264; clear BK265; clear BK286; clear BK287; clear HB; have HO_35 := n0_; have HO_50 := n1_; have BK264 := n2_; have BK265 := n3_; have BK286 := n4_; have BK287 := n5_; have HB := n6_; clear n0_ n1_ n2_ n3_ n4_ n5_ n6_; (try clear hb); (try clear hb2); (try clear hk); (try clear hi)) | ((with_reducible refine gate_callee (f := 37) rfl ?_); refine goesL_ (some 76) rfl rfl Try.func37 (by kernel_rfl) rfl #[.int .u64 t268] rfl (by (try simp only [List.map_toArray, List.map_cons, List.map_nil]); first | done | rfl | (simp only [List.length_drop, List.length_take]; rfl)) ?_; (with_reducible refine (span_Const.calls t268 t290 t291 _ A30.out).mono ?_); rintro e w47 ⟨rfl, hb⟩; refine ⟨_, rfl, ?_⟩; have n0_ := Aside0.mk (Kd.R_below (by (with_reducible repeat (first | apply Kd.R_alloc | apply Kd.R_drewN | apply Kd.R_drew)); exact HO_35.out) hb); have n1_ := Aside0.mk (Kd.R_below (by (with_reducible repeat (first | apply Kd.R_alloc | apply Kd.R_drewN | apply Kd.R_drew)); exact HO_50.out) hb); have n2_ := Aside0.mk (blk_below (g := gb264) (o := .cells #[.int .u64 a1_0, .int .u64 a1_1, .int .u64 a1_2, .int .u64 a1_3] 63 (0, 0)) (by (with_reducible repeat (first | apply bN | apply bD | apply bA)); exact BK264.out) hb); have n3_ := Aside0.mk (blk_below (g := gb265) (o := .cells #[.int .u64 a2_0, .int .u64 a2_1] 26 (0, 0)) (by (with_reducible repeat (first | apply bN | apply bD | apply bA)); exact BK265.out) hb); have n4_ := Aside0.mk (blk_below (g := gb286) (o := .cells #[.int .u64 t280, .int .u64 t281] 58 (0, 0)) (by (with_reducible repeat (first | apply bN | apply bD | apply bA)); exact BK286.out) hb); have n5_ := Aside0.mk (blk_below (g := gb287) (o := .cells #[.int .u64 t282, .int .u64 t283] 58 (0, 0)) (by (with_reducible repeat (first | apply bN | apply bD | apply bA)); exact BK287.out) hb); have n6_ := Aside0.mk (below_step (by repeat (first | (with_reducible first | exact HB.out | apply lA | apply lN | apply lD | refine lS ?_ ‹_›) | exact HB.out)) hb); clear HO_35; clear HO_50; clear BK264; clear BK265; clear BK286; clear BK287; clear HB; have HO_35 := n0_; have HO_50 := n1_; have BK264 := n2_; have BK265 := n3_; have BK286 := n4_; have BK287 := n5_; have HB := n6_; clear n0_ n1_ n2_ n3_ n4_ n5_ n6_; (try clear hb); (try clear hb2); (try clear hk); (try clear hi)) | ((with_reducible refine gate_callee (f := 36) rfl ?_); refine goesL_ (some 77) rfl rfl Try.func36 (by kernel_rfl) rfl #[.int .i64 a0, .bool (rdOf false y269 x37_1), .bool (rdOf false y276 x52_2), .agg #[.int .u64 t288, .int .u64 t289], .agg #[.int .u64 t290, .int .u64 t291]] rfl (by (try simp only [List.map_toArray, List.map_cons, List.map_nil]); first | done | rfl | (simp only [List.length_drop, List.length_take]; rfl)) ?_; (with_reducible refine (span_Narrow.calls k2 a0 (rdOf false y269 x37_1) (rdOf false y276 x52_2) t288 t289 t290 t291 t292 t293 t294 t295 t296 t297 _ A31.out).mono ?_); rintro e w48 ⟨rfl, hb⟩; refine ⟨_, rfl, ?_⟩; have n0_ := Aside0.mk (Kd.R_below (by (with_reducible repeat (first | apply Kd.R_alloc | apply Kd.R_drewN | apply Kd.R_drew)); exact HO_35.out) hb); have n1_ := Aside0.mk (Kd.R_below (by (with_reducible repeat (first | apply Kd.R_alloc | apply Kd.R_drewN | apply Kd.R_drew)); exact HO_50.out) hb); have n2_ := Aside0.mk (blk_below (g := gb264) (o := .cells #[.int .u64 a1_0, .int .u64 a1_1, .int .u64 a1_2, .int .u64 a1_3] 63 (0, 0)) (by (with_reducible repeat (first | apply bN | apply bD | apply bA)); exact BK264.out) hb); have n3_ := Aside0.mk (blk_below (g := gb265) (o := .cells #[.int .u64 a2_0, .int .u64 a2_1] 26 (0, 0)) (by (with_reducible repeat (first | apply bN | apply bD | apply bA)); exact BK265.out) hb); have n4_ := Aside0.mk (blk_below (g := gb286) (o := .cells #[.int .u64 t280, .int .u64 t281] 58 (0, 0)) (by (with_reducible repeat (first | apply bN | apply bD | apply bA)); exact BK286.out) hb); have n5_ := Aside0.mk (blk_below (g := gb287) (o := .cells #[.int .u64 t282, .int .u64 t283] 58 (0, 0)) (by (with_reducible repeat (first | apply bN | apply bD | apply bA)); exact BK287.out) hb); have n6_ := Aside0.mk (below_step (by repeat (first | (with_reducible first | exact HB.out | apply lA | apply lN | apply lD | refine lS ?_ ‹_›) | exact HB.out)) hb); clear HO_35; clear HO_50; clear BK264; clear BK265; clear BK286; clear BK287; clear HB; have HO_35 := n0_; have HO_50 := n1_; have BK264 := n2_; have BK265 := n3_; have BK286 := n4_; have BK287 := n5_; have HB := n6_; clear n0_ n1_ n2_ n3_ n4_ n5_ n6_; (try clear hb); (try clear hb2); (try clear hk); (try clear hi)) | ((with_reducible refine gate_dst (N := 19) rfl ?_); refine box_event ?hg (N := 19) ?hd (cs := #[.int .u64 0, .int .u64 0]) (t := 58) ?hr ?_; (case hd => rfl); (case hg => rfl); (case hr => first | (go_simp; done) | (go_simp; rfl)); intro gb298 hg w49 hbox hb; have n0_ := Aside0.mk (Kd.R_below (by (with_reducible repeat (first | apply Kd.R_alloc | apply Kd.R_drewN | apply Kd.R_drew)); exact HO_35.out) hb); have n1_ := Aside0.mk (Kd.R_below (by (with_reducible repeat (first | apply Kd.R_alloc | apply Kd.R_drewN | apply Kd.R_drew)); exact HO_50.out) hb); have n2_ := Aside0.mk (blk_below (g := gb264) (o := .cells #[.int .u64 a1_0, .int .u64 a1_1, .int .u64 a1_2, .int .u64 a1_3] 63 (0, 0)) (by (with_reducible repeat (first | apply bN | apply bD | apply bA)); exact BK264.out) hb); have n3_ := Aside0.mk (blk_below (g := gb265) (o := .cells #[.int .u64 a2_0, .int .u64 a2_1] 26 (0, 0)) (by (with_reducible repeat (first | apply bN | apply bD | apply bA)); exact BK265.out) hb); have n4_ := Aside0.mk (blk_below (g := gb286) (o := .cells #[.int .u64 t280, .int .u64 t281] 58 (0, 0)) (by (with_reducible repeat (first | apply bN | apply bD | apply bA)); exact BK286.out) hb); have n5_ := Aside0.mk (blk_below (g := gb287) (o := .cells #[.int .u64 t282, .int .u64 t283] 58 (0, 0)) (by (with_reducible repeat (first | apply bN | apply bD | apply bA)); exact BK287.out) hb); have n6_ := Aside0.mk (below_step (by repeat (first | (with_reducible first | exact HB.out | apply lA | apply lN | apply lD | refine lS ?_ ‹_›) | exact HB.out)) hb); have n7_ := Aside0.mk (hbox); have n8_ := Aside0.mk ((by rw [hg]; exact (below_size (by repeat (first | (with_reducible first | exact HB.out | apply lA | apply lN | apply lD | refine lS ?_ ‹_›) | exact HB.out))) : w.heap.size ≤ gb298)); have n9_ := n8_; have n10_ := Aside0.mk ((by rw [hg]; exact Nat.ne_of_lt (blk_lt (g := gb264) (o := .cells #[.int .u64 a1_0, .int .u64 a1_1, .int .u64 a1_2, .int .u64 a1_3] 63 (0, 0)) (by (with_reducible repeat (first | apply bN | apply bD | apply bA)); exact BK264.out)) : gb264 ≠ gb298)); have n11_ := sy n10_; have n12_ := Aside0.mk ((by rw [hg]; exact Nat.ne_of_lt (blk_lt (g := gb265) (o := .cells #[.int .u64 a2_0, .int .u64 a2_1] 26 (0, 0)) (by (with_reducible repeat (first | apply bN | apply bD | apply bA)); exact BK265.out)) : gb265 ≠ gb298)); have n13_ := sy n12_; have n14_ := Aside0.mk ((by rw [hg]; exact Nat.ne_of_lt (blk_lt (g := gb286) (o := .cells #[.int .u64 t280, .int .u64 t281] 58 (0, 0)) (by (with_reducible repeat (first | apply bN | apply bD | apply bA)); exact BK286.out)) : gb286 ≠ gb298)); have n15_ := sy n14_; have n16_ := Aside0.mk ((by rw [hg]; exact Nat.ne_of_lt (blk_lt (g := gb287) (o := .cells #[.int .u64 t282, .int .u64 t283] 58 (0, 0)) (by (with_reducible repeat (first | apply bN | apply bD | apply bA)); exact BK287.out)) : gb287 ≠ gb298)); have n17_ := sy n16_; clear HO_35; clear HO_50; clear BK264; clear BK265; clear BK286; clear BK287; clear HB; have HO_35 := n0_; have HO_50 := n1_; have BK264 := n2_; have BK265 := n3_; have BK286 := n4_; have BK287 := n5_; have HB := n6_; have BK298 := n7_; have GW298 := n8_; have GE298 := n9_; have NB264_298 := n10_; have NB298_264 := n11_; have NB265_298 := n12_; have NB298_265 := n13_; have NB286_298 := n14_; have NB298_286 := n15_; have NB287_298 := n16_; have NB298_287 := n17_; clear n0_ n1_ n2_ n3_ n4_ n5_ n6_ n7_ n8_ n9_ n10_ n11_ n12_ n13_ n14_ n15_ n16_ n17_; clear hb hbox hg) | ((with_reducible refine gate_dst (N := 20) rfl ?_); refine box_event ?hg (N := 20) ?hd (cs := #[.int .u64 0, .int .u64 0]) (t := 58) ?hr ?_; (case hd => rfl); (case hg => rfl); (case hr => first | (go_simp; done) | (go_simp; rfl)); intro gb299 hg w50 hbox hb; have n0_ := Aside0.mk (Kd.R_below (by (with_reducible repeat (first | apply Kd.R_alloc | apply Kd.R_drewN | apply Kd.R_drew)); exact HO_35.out) hb); have n1_ := Aside0.mk (Kd.R_below (by (with_reducible repeat (first | apply Kd.R_alloc | apply Kd.R_drewN | apply Kd.R_drew)); exact HO_50.out) hb); have n2_ := Aside0.mk (blk_below (g := gb264) (o := .cells #[.int .u64 a1_0, .int .u64 a1_1, .int .u64 a1_2, .int .u64 a1_3] 63 (0, 0)) (by (with_reducible repeat (first | apply bN | apply bD | apply bA)); exact BK264.out) hb); have n3_ := Aside0.mk (blk_below (g := gb265) (o := .cells #[.int .u64 a2_0, .int .u64 a2_1] 26 (0, 0)) (by (with_reducible repeat (first | apply bN | apply bD | apply bA)); exact BK265.out) hb); have n4_ := Aside0.mk (blk_below (g := gb286) (o := .cells #[.int .u64 t280, .int .u64 t281] 58 (0, 0)) (by (with_reducible repeat (first | apply bN | apply bD | apply bA)); exact BK286.out) hb); have n5_ := Aside0.mk (blk_below (g := gb287) (o := .cells #[.int .u64 t282, .int .u64 t283] 58 (0, 0)) (by (with_reducible repeat (first | apply bN | apply bD | apply bA)); exact BK287.out) hb); have n6_ := Aside0.mk (blk_below (g := gb298) (o := .cells #[.int .u64 0, .int .u64 0] 58 (0, 0)) (by (with_reducible repeat (first | apply bN | apply bD | apply bA)); exact BK298.out) hb); have n7_ := Aside0.mk (below_step (by repeat (first | (with_reducible first | exact HB.out | apply lA | apply lN | apply lD | refine lS ?_ ‹_›) | exact HB.out)) hb); have n8_ := Aside0.mk (hbox); have n9_ := Aside0.mk ((by rw [hg]; exact (below_size (by repeat (first | (with_reducible first | exact HB.out | apply lA | apply lN | apply lD | refine lS ?_ ‹_›) | exact HB.out))) : w.heap.size ≤ gb299)); have n10_ := n9_; have n11_ := Aside0.mk ((by rw [hg]; exact Nat.ne_of_lt (blk_lt (g := gb264) (o := .cells #[.int .u64 a1_0, .int .u64 a1_1, .int .u64 a1_2, .int .u64 a1_3] 63 (0, 0)) (by (with_reducible repeat (first | apply bN | apply bD | apply bA)); exact BK264.out)) : gb264 ≠ gb299)); have n12_ := sy n11_; have n13_ := Aside0.mk ((by rw [hg]; exact Nat.ne_of_lt (blk_lt (g := gb265) (o := .cells #[.int .u64 a2_0, .int .u64 a2_1] 26 (0, 0)) (by (with_reducible repeat (first | apply bN | apply bD | apply bA)); exact BK265.out)) : gb265 ≠ gb299)); have n14_ := sy n13_; have n15_ := Aside0.mk ((by rw [hg]; exact Nat.ne_of_lt (blk_lt (g := gb286) (o := .cells #[.int .u64 t280, .int .u64 t281] 58 (0, 0)) (by (with_reducible repeat (first | apply bN | apply bD | apply bA)); exact BK286.out)) : gb286 ≠ gb299)); have n16_ := sy n15_; have n17_ := Aside0.mk ((by rw [hg]; exact Nat.ne_of_lt (blk_lt (g := gb287) (o := .cells #[.int .u64 t282, .int .u64 t283] 58 (0, 0)) (by (with_reducible repeat (first | apply bN | apply bD | apply bA)); exact BK287.out)) : gb287 ≠ gb299)); have n18_ := sy n17_; have n19_ := Aside0.mk ((by rw [hg]; exact Nat.ne_of_lt (blk_lt (g := gb298) (o := .cells #[.int .u64 0, .int .u64 0] 58 (0, 0)) (by (with_reducible repeat (first | apply bN | apply bD | apply bA)); exact BK298.out)) : gb298 ≠ gb299)); have n20_ := sy n19_; clear HO_35; clear HO_50; clear BK264; clear BK265; clear BK286; clear BK287; clear BK298; clear HB; have HO_35 := n0_; have HO_50 := n1_; have BK264 := n2_; have BK265 := n3_; have BK286 := n4_; have BK287 := n5_; have BK298 := n6_; have HB := n7_; have BK299 := n8_; have GW299 := n9_; have GE299 := n10_; have NB264_299 := n11_; have NB299_264 := n12_; have NB265_299 := n13_; have NB299_265 := n14_; have NB286_299 := n15_; have NB299_286 := n16_; have NB287_299 := n17_; have NB299_287 := n18_; have NB298_299 := n19_; have NB299_298 := n20_; clear n0_ n1_ n2_ n3_ n4_ n5_ n6_ n7_ n8_ n9_ n10_ n11_ n12_ n13_ n14_ n15_ n16_ n17_ n18_ n19_ n20_; clear hb hbox hg; have hnb51 := NB298_264.out; have hnc51 := NB264_298.out; have hnb52 := NB298_265.out; have hnc52 := NB265_298.out; have hnb53 := NB298_286.out; have hnc53 := NB286_298.out; have hnb54 := NB298_287.out; have hnc54 := NB287_298.out; have hnb55 := NB298_299.out; have hnc55 := NB299_298.out; have hcz56_0 : w50.cell? ⟨gb298, 0, none⟩ = some (.int .u64 0) := (blk_cell BK298.out 0).trans rfl; have hcz56_1 : w50.cell? ⟨gb298, 1, none⟩ = some (.int .u64 0) := (blk_cell BK298.out 1).trans rfl; have hfz56_0 := blk_frozen BK298.out 0; have hfz56_1 := blk_frozen BK298.out 1; have hnb57 := NB299_264.out; have hnc57 := NB264_299.out; have hnb58 := NB299_265.out; have hnc58 := NB265_299.out; have hnb59 := NB299_286.out; have hnc59 := NB286_299.out; have hnb60 := NB299_287.out; have hnc60 := NB287_299.out; have hcz61_0 : w50.cell? ⟨gb299, 0, none⟩ = some (.int .u64 0) := (blk_cell BK299.out 0).trans rfl; have hcz61_1 : w50.cell? ⟨gb299, 1, none⟩ = some (.int .u64 0) := (blk_cell BK299.out 1).trans rfl; have hfz61_0 := blk_frozen BK299.out 0; have hfz61_1 := blk_frozen BK299.out 1))
             (try simp only [Act.put, List.setIfInBounds_toArray, List.set_cons_zero, List.set_cons_succ])
             go_cut [129] (fun v129 wc => ∃ (kq : Nat) (x129_32 : Bool), v129 = .bool x129_32 ∧ Aside0 (posternlaw15_SpanNarrow.j2 kq a0 t267 t268 (rdOf false y269 x37_1) t274 true (rdOf false y276 x52_2) t284 y269 (y269.length : Int) x37_1 y276 (y276.length : Int) x52_2 x129_32 a1_0 a1_1 a1_2 a1_3 t280 t281 t282 t283 = some r) ∧ Aside0 (kq ≤ k2) ∧ Aside0 (Kd.R Kd.bool 4 wc w.heap.size (fun k_ => some k_ ≠ ((.slice (some ad279) y276.length co24) : Value).ownBlock) (.slice (some ad272) y269.length co16) y269) ∧ Aside0 (Kd.R Kd.bool 4 wc w.heap.size (fun k_ => some k_ ≠ ((.slice (some ad272) y269.length co16) : Value).ownBlock) (.slice (some ad279) y276.length co24) y276) ∧ Aside0 (wc.heap[gb264]? = some (.cells #[.int .u64 a1_0, .int .u64 a1_1, .int .u64 a1_2, .int .u64 a1_3] 63 (0, 0))) ∧ Aside0 (wc.heap[gb265]? = some (.cells #[.int .u64 a2_0, .int .u64 a2_1] 26 (0, 0))) ∧ Aside0 (wc.heap[gb286]? = some (.cells #[.int .u64 t280, .int .u64 t281] 58 (0, 0))) ∧ Aside0 (wc.heap[gb287]? = some (.cells #[.int .u64 t282, .int .u64 t283] 58 (0, 0))) ∧ Aside0 (wc.heap[gb298]? = some (.cells #[.int .u64 t292, .int .u64 t293] 58 (0, 0))) ∧ Aside0 (wc.heap[gb299]? = some (.cells #[.int .u64 t294, .int .u64 t295] 58 (0, 0))) ∧ Aside0 (Below w.heap.size w wc))
             case first => as_aux_lemma =>
              have H := HC33.out
              clear HC33
              by_cases c62 : t285 = 0
              ·
               rw [if_pos c62] at H
               have c62b0 : (t285 == 0) = true := beq_iff_eq.mpr c62; have c62b1 : (t285 != 0) = false := bne_eq_false_iff_eq.mpr c62; clear c62
               (first | rw [c62b0] | (simp only [i64_w, i32_w]; rw [c62b0]) | skip)
               by_cases c63 : t297 = 0
               ·
                rw [if_pos c63] at H
                have c63b0 : (t297 == 0) = true := beq_iff_eq.mpr c63; have c63b1 : (t297 != 0) = false := bne_eq_false_iff_eq.mpr c63; clear c63
                by_cases c64 : (t296 != (t274 == (rdOf false y276 x52_2))) = true
                ·
                 rw [if_pos c64] at H
                 have c64b0 : (t296 != (t274 == (rdOf false y276 x52_2))) = true := c64
                 (try (have c64b1 : decide (t296 = (t274 == (rdOf false y276 x52_2))) = false := by simpa using c64)); (try (have c64b2 : (t296 == (t274 == (rdOf false y276 x52_2))) = false := by simpa using c64)); (try (have c64b3 : ¬ (t296 = (t274 == (rdOf false y276 x52_2))) := by simpa using c64)); clear c64
                 have H' := Aside0.mk H; clear H
                 go_wp2
                 go_meet
                 case rel => exact ⟨_, (true), (by first | rfl | (simp; done) | (simp [*]; done)), H', ⟨by have := HK1.out; have := HK2.out; first | omega | exact Nat.le_refl _⟩, ⟨by (with_reducible repeat (first | apply Kd.R_alloc | apply Kd.R_drewN | apply Kd.R_drew)); exact Kd.R_mono (Kd.R_far (p := ⟨gb299, 1, none⟩) (Kd.R_far (p := ⟨gb299, 0, none⟩) (Kd.R_far (p := ⟨gb298, 1, none⟩) (Kd.R_far (p := ⟨gb298, 0, none⟩) (Kd.R_types (Kd.R_types HO_35.out BK298.out (by decide)) BK299.out (by decide)) (fun _ hk => hk.1.2) (.int .u64 t292)) (fun _ hk => hk.1.2) (.int .u64 t293)) (fun _ hk => hk.2) (.int .u64 t294)) (fun _ hk => hk.2) (.int .u64 t295)) (fun _ hk => hk.1.1)⟩, ⟨by (with_reducible repeat (first | apply Kd.R_alloc | apply Kd.R_drewN | apply Kd.R_drew)); exact Kd.R_mono (Kd.R_far (p := ⟨gb299, 1, none⟩) (Kd.R_far (p := ⟨gb299, 0, none⟩) (Kd.R_far (p := ⟨gb298, 1, none⟩) (Kd.R_far (p := ⟨gb298, 0, none⟩) (Kd.R_types (Kd.R_types HO_50.out BK298.out (by decide)) BK299.out (by decide)) (fun _ hk => hk.1.2) (.int .u64 t292)) (fun _ hk => hk.1.2) (.int .u64 t293)) (fun _ hk => hk.2) (.int .u64 t294)) (fun _ hk => hk.2) (.int .u64 t295)) (fun _ hk => hk.1.1)⟩, ⟨by (with_reducible repeat (first | apply bN | apply bD | apply bA)); refine blk_far ?_ NB264_299.out _; (with_reducible repeat (first | apply bN | apply bD | apply bA)); refine blk_far ?_ NB264_299.out _; (with_reducible repeat (first | apply bN | apply bD | apply bA)); refine blk_far ?_ NB264_298.out _; (with_reducible repeat (first | apply bN | apply bD | apply bA)); refine blk_far ?_ NB264_298.out _; (with_reducible repeat (first | apply bN | apply bD | apply bA)); exact BK264.out⟩, ⟨by (with_reducible repeat (first | apply bN | apply bD | apply bA)); refine blk_far ?_ NB265_299.out _; (with_reducible repeat (first | apply bN | apply bD | apply bA)); refine blk_far ?_ NB265_299.out _; (with_reducible repeat (first | apply bN | apply bD | apply bA)); refine blk_far ?_ NB265_298.out _; (with_reducible repeat (first | apply bN | apply bD | apply bA)); refine blk_far ?_ NB265_298.out _; (with_reducible repeat (first | apply bN | apply bD | apply bA)); exact BK265.out⟩, ⟨by (with_reducible repeat (first | apply bN | apply bD | apply bA)); refine blk_far ?_ NB286_299.out _; (with_reducible repeat (first | apply bN | apply bD | apply bA)); refine blk_far ?_ NB286_299.out _; (with_reducible repeat (first | apply bN | apply bD | apply bA)); refine blk_far ?_ NB286_298.out _; (with_reducible repeat (first | apply bN | apply bD | apply bA)); refine blk_far ?_ NB286_298.out _; (with_reducible repeat (first | apply bN | apply bD | apply bA)); exact BK286.out⟩, ⟨by (with_reducible repeat (first | apply bN | apply bD | apply bA)); refine blk_far ?_ NB287_299.out _; (with_reducible repeat (first | apply bN | apply bD | apply bA)); refine blk_far ?_ NB287_299.out _; (with_reducible repeat (first | apply bN | apply bD | apply bA)); refine blk_far ?_ NB287_298.out _; (with_reducible repeat (first | apply bN | apply bD | apply bA)); refine blk_far ?_ NB287_298.out _; (with_reducible repeat (first | apply bN | apply bD | apply bA)); exact BK287.out⟩, ⟨by (with_reducible repeat (first | apply bN | apply bD | apply bA)); refine blk_far ?_ NB298_299.out _; (with_reducible repeat (first | apply bN | apply bD | apply bA)); refine blk_far ?_ NB298_299.out _; (with_reducible repeat (first | apply bN | apply bD | apply bA)); refine blk_put (cs := #[.int .u64 t292, .int .u64 0]) ?_ 1 _ rfl; (with_reducible repeat (first | apply bN | apply bD | apply bA)); refine blk_put (cs := #[.int .u64 0, .int .u64 0]) ?_ 0 _ rfl; (with_reducible repeat (first | apply bN | apply bD | apply bA)); exact BK298.out⟩, ⟨by (with_reducible repeat (first | apply bN | apply bD | apply bA)); refine blk_put (cs := #[.int .u64 t294, .int .u64 0]) ?_ 1 _ rfl; (with_reducible repeat (first | apply bN | apply bD | apply bA)); refine blk_put (cs := #[.int .u64 0, .int .u64 0]) ?_ 0 _ rfl; (with_reducible repeat (first | apply bN | apply bD | apply bA)); refine blk_far ?_ NB299_298.out _; (with_reducible repeat (first | apply bN | apply bD | apply bA)); refine blk_far ?_ NB299_298.out _; (with_reducible repeat (first | apply bN | apply bD | apply bA)); exact BK299.out⟩, ⟨by repeat (first | (with_reducible first | exact HB.out | apply lA | apply lN | apply lD | refine lS ?_ ‹_›) | exact HB.out)⟩⟩
                ·
                 rw [if_neg c64] at H
                 have c64b0 : (t296 != (t274 == (rdOf false y276 x52_2))) = false := by simpa using c64
                 (try (have c64b1 : decide (t296 = (t274 == (rdOf false y276 x52_2))) = true := by simpa using c64)); (try (have c64b2 : (t296 == (t274 == (rdOf false y276 x52_2))) = true := by simpa using c64)); clear c64
                 by_cases c65 : t284 = true
                 ·
                  subst c65
                  have H1 : (posternlaw15_SpanNarrow.j2 k2 a0 t267 t268 (rdOf false y269 x37_1) t274 true (rdOf false y276 x52_2) true y269 (y269.length : Int) x37_1 y276 (y276.length : Int) x52_2 false a1_0 a1_1 a1_2 a1_3 t280 t281 t282 t283) = some r := by rw [if_pos rfl] at H; exact H
                  clear H; have H := H1; clear H1; have H' := Aside0.mk H; clear H
                  go_wp2
                  go_meet
                  case rel => exact ⟨_, (false), (by first | rfl | (simp; done) | (simp [*]; done)), H', ⟨by have := HK1.out; have := HK2.out; first | omega | exact Nat.le_refl _⟩, ⟨by (with_reducible repeat (first | apply Kd.R_alloc | apply Kd.R_drewN | apply Kd.R_drew)); exact Kd.R_mono (Kd.R_far (p := ⟨gb299, 1, none⟩) (Kd.R_far (p := ⟨gb299, 0, none⟩) (Kd.R_far (p := ⟨gb298, 1, none⟩) (Kd.R_far (p := ⟨gb298, 0, none⟩) (Kd.R_types (Kd.R_types HO_35.out BK298.out (by decide)) BK299.out (by decide)) (fun _ hk => hk.1.2) (.int .u64 t292)) (fun _ hk => hk.1.2) (.int .u64 t293)) (fun _ hk => hk.2) (.int .u64 t294)) (fun _ hk => hk.2) (.int .u64 t295)) (fun _ hk => hk.1.1)⟩, ⟨by (with_reducible repeat (first | apply Kd.R_alloc | apply Kd.R_drewN | apply Kd.R_drew)); exact Kd.R_mono (Kd.R_far (p := ⟨gb299, 1, none⟩) (Kd.R_far (p := ⟨gb299, 0, none⟩) (Kd.R_far (p := ⟨gb298, 1, none⟩) (Kd.R_far (p := ⟨gb298, 0, none⟩) (Kd.R_types (Kd.R_types HO_50.out BK298.out (by decide)) BK299.out (by decide)) (fun _ hk => hk.1.2) (.int .u64 t292)) (fun _ hk => hk.1.2) (.int .u64 t293)) (fun _ hk => hk.2) (.int .u64 t294)) (fun _ hk => hk.2) (.int .u64 t295)) (fun _ hk => hk.1.1)⟩, ⟨by (with_reducible repeat (first | apply bN | apply bD | apply bA)); refine blk_far ?_ NB264_299.out _; (with_reducible repeat (first | apply bN | apply bD | apply bA)); refine blk_far ?_ NB264_299.out _; (with_reducible repeat (first | apply bN | apply bD | apply bA)); refine blk_far ?_ NB264_298.out _; (with_reducible repeat (first | apply bN | apply bD | apply bA)); refine blk_far ?_ NB264_298.out _; (with_reducible repeat (first | apply bN | apply bD | apply bA)); exact BK264.out⟩, ⟨by (with_reducible repeat (first | apply bN | apply bD | apply bA)); refine blk_far ?_ NB265_299.out _; (with_reducible repeat (first | apply bN | apply bD | apply bA)); refine blk_far ?_ NB265_299.out _; (with_reducible repeat (first | apply bN | apply bD | apply bA)); refine blk_far ?_ NB265_298.out _; (with_reducible repeat (first | apply bN | apply bD | apply bA)); refine blk_far ?_ NB265_298.out _; (with_reducible repeat (first | apply bN | apply bD | apply bA)); exact BK265.out⟩, ⟨by (with_reducible repeat (first | apply bN | apply bD | apply bA)); refine blk_far ?_ NB286_299.out _; (with_reducible repeat (first | apply bN | apply bD | apply bA)); refine blk_far ?_ NB286_299.out _; (with_reducible repeat (first | apply bN | apply bD | apply bA)); refine blk_far ?_ NB286_298.out _; (with_reducible repeat (first | apply bN | apply bD | apply bA)); refine blk_far ?_ NB286_298.out _; (with_reducible repeat (first | apply bN | apply bD | apply bA)); exact BK286.out⟩, ⟨by (with_reducible repeat (first | apply bN | apply bD | apply bA)); refine blk_far ?_ NB287_299.out _; (with_reducible repeat (first | apply bN | apply bD | apply bA)); refine blk_far ?_ NB287_299.out _; (with_reducible repeat (first | apply bN | apply bD | apply bA)); refine blk_far ?_ NB287_298.out _; (with_reducible repeat (first | apply bN | apply bD | apply bA)); refine blk_far ?_ NB287_298.out _; (with_reducible repeat (first | apply bN | apply bD | apply bA)); exact BK287.out⟩, ⟨by (with_reducible repeat (first | apply bN | apply bD | apply bA)); refine blk_far ?_ NB298_299.out _; (with_reducible repeat (first | apply bN | apply bD | apply bA)); refine blk_far ?_ NB298_299.out _; (with_reducible repeat (first | apply bN | apply bD | apply bA)); refine blk_put (cs := #[.int .u64 t292, .int .u64 0]) ?_ 1 _ rfl; (with_reducible repeat (first | apply bN | apply bD | apply bA)); refine blk_put (cs := #[.int .u64 0, .int .u64 0]) ?_ 0 _ rfl; (with_reducible repeat (first | apply bN | apply bD | apply bA)); exact BK298.out⟩, ⟨by (with_reducible repeat (first | apply bN | apply bD | apply bA)); refine blk_put (cs := #[.int .u64 t294, .int .u64 0]) ?_ 1 _ rfl; (with_reducible repeat (first | apply bN | apply bD | apply bA)); refine blk_put (cs := #[.int .u64 0, .int .u64 0]) ?_ 0 _ rfl; (with_reducible repeat (first | apply bN | apply bD | apply bA)); refine blk_far ?_ NB299_298.out _; (with_reducible repeat (first | apply bN | apply bD | apply bA)); refine blk_far ?_ NB299_298.out _; (with_reducible repeat (first | apply bN | apply bD | apply bA)); exact BK299.out⟩, ⟨by repeat (first | (with_reducible first | exact HB.out | apply lA | apply lN | apply lD | refine lS ?_ ‹_›) | exact HB.out)⟩⟩
                 ·
                  replace c65 := Bool.eq_false_iff.mpr c65
                  subst c65
                  have H1 : (if (!(t280 == 0) || (!(t281 == 0))) = true then (posternlaw15_SpanNarrow.j2 k2 a0 t267 t268 (rdOf false y269 x37_1) t274 true (rdOf false y276 x52_2) false y269 (y269.length : Int) x37_1 y276 (y276.length : Int) x52_2 true a1_0 a1_1 a1_2 a1_3 t280 t281 t282 t283) else (posternlaw15_SpanNarrow.j2 k2 a0 t267 t268 (rdOf false y269 x37_1) t274 true (rdOf false y276 x52_2) false y269 (y269.length : Int) x37_1 y276 (y276.length : Int) x52_2 (!(t282 == 0) || (!(t283 == 0))) a1_0 a1_1 a1_2 a1_3 t280 t281 t282 t283)) = some r := by rw [if_neg (show ¬ (false = true) by decide)] at H; exact H
                  clear H; have H := H1; clear H1
                  by_cases c66 : (!(t280 == 0) || (!(t281 == 0))) = true
                  ·
                   rw [if_pos c66] at H
                   have c66b0 : (!(t280 == 0) || (!(t281 == 0))) = true := c66
                   clear c66; have H' := Aside0.mk H
                   clear H; have hnb67 := NB286_264.out; have hnc67 := NB264_286.out; have hnb68 := NB286_265.out; have hnc68 := NB265_286.out; have hnb69 := NB286_287.out; have hnc69 := NB287_286.out; have hnb70 := NB286_298.out; have hnc70 := NB298_286.out; have hnb71 := NB286_299.out; have hnc71 := NB299_286.out; have hcz72_0 : w50.cell? ⟨gb286, 0, none⟩ = some (.int .u64 t280) := (blk_cell BK286.out 0).trans rfl; have hcz72_1 : w50.cell? ⟨gb286, 1, none⟩ = some (.int .u64 t281) := (blk_cell BK286.out 1).trans rfl; have hfz72_0 := blk_frozen BK286.out 0; have hfz72_1 := blk_frozen BK286.out 1
                   go_wp2
                   go_meet
                   case rel => exact ⟨_, (true), (by first | rfl | (simp; done) | (simp [*]; done)), H', ⟨by have := HK1.out; have := HK2.out; first | omega | exact Nat.le_refl _⟩, ⟨by (with_reducible repeat (first | apply Kd.R_alloc | apply Kd.R_drewN | apply Kd.R_drew)); exact Kd.R_mono (Kd.R_far (p := ⟨gb299, 1, none⟩) (Kd.R_far (p := ⟨gb299, 0, none⟩) (Kd.R_far (p := ⟨gb298, 1, none⟩) (Kd.R_far (p := ⟨gb298, 0, none⟩) (Kd.R_types (Kd.R_types HO_35.out BK298.out (by decide)) BK299.out (by decide)) (fun _ hk => hk.1.2) (.int .u64 t292)) (fun _ hk => hk.1.2) (.int .u64 t293)) (fun _ hk => hk.2) (.int .u64 t294)) (fun _ hk => hk.2) (.int .u64 t295)) (fun _ hk => hk.1.1)⟩, ⟨by (with_reducible repeat (first | apply Kd.R_alloc | apply Kd.R_drewN | apply Kd.R_drew)); exact Kd.R_mono (Kd.R_far (p := ⟨gb299, 1, none⟩) (Kd.R_far (p := ⟨gb299, 0, none⟩) (Kd.R_far (p := ⟨gb298, 1, none⟩) (Kd.R_far (p := ⟨gb298, 0, none⟩) (Kd.R_types (Kd.R_types HO_50.out BK298.out (by decide)) BK299.out (by decide)) (fun _ hk => hk.1.2) (.int .u64 t292)) (fun _ hk => hk.1.2) (.int .u64 t293)) (fun _ hk => hk.2) (.int .u64 t294)) (fun _ hk => hk.2) (.int .u64 t295)) (fun _ hk => hk.1.1)⟩, ⟨by (with_reducible repeat (first | apply bN | apply bD | apply bA)); refine blk_far ?_ NB264_299.out _; (with_reducible repeat (first | apply bN | apply bD | apply bA)); refine blk_far ?_ NB264_299.out _; (with_reducible repeat (first | apply bN | apply bD | apply bA)); refine blk_far ?_ NB264_298.out _; (with_reducible repeat (first | apply bN | apply bD | apply bA)); refine blk_far ?_ NB264_298.out _; (with_reducible repeat (first | apply bN | apply bD | apply bA)); exact BK264.out⟩, ⟨by (with_reducible repeat (first | apply bN | apply bD | apply bA)); refine blk_far ?_ NB265_299.out _; (with_reducible repeat (first | apply bN | apply bD | apply bA)); refine blk_far ?_ NB265_299.out _; (with_reducible repeat (first | apply bN | apply bD | apply bA)); refine blk_far ?_ NB265_298.out _; (with_reducible repeat (first | apply bN | apply bD | apply bA)); refine blk_far ?_ NB265_298.out _; (with_reducible repeat (first | apply bN | apply bD | apply bA)); exact BK265.out⟩, ⟨by (with_reducible repeat (first | apply bN | apply bD | apply bA)); refine blk_far ?_ NB286_299.out _; (with_reducible repeat (first | apply bN | apply bD | apply bA)); refine blk_far ?_ NB286_299.out _; (with_reducible repeat (first | apply bN | apply bD | apply bA)); refine blk_far ?_ NB286_298.out _; (with_reducible repeat (first | apply bN | apply bD | apply bA)); refine blk_far ?_ NB286_298.out _; (with_reducible repeat (first | apply bN | apply bD | apply bA)); exact BK286.out⟩, ⟨by (with_reducible repeat (first | apply bN | apply bD | apply bA)); refine blk_far ?_ NB287_299.out _; (with_reducible repeat (first | apply bN | apply bD | apply bA)); refine blk_far ?_ NB287_299.out _; (with_reducible repeat (first | apply bN | apply bD | apply bA)); refine blk_far ?_ NB287_298.out _; (with_reducible repeat (first | apply bN | apply bD | apply bA)); refine blk_far ?_ NB287_298.out _; (with_reducible repeat (first | apply bN | apply bD | apply bA)); exact BK287.out⟩, ⟨by (with_reducible repeat (first | apply bN | apply bD | apply bA)); refine blk_far ?_ NB298_299.out _; (with_reducible repeat (first | apply bN | apply bD | apply bA)); refine blk_far ?_ NB298_299.out _; (with_reducible repeat (first | apply bN | apply bD | apply bA)); refine blk_put (cs := #[.int .u64 t292, .int .u64 0]) ?_ 1 _ rfl; (with_reducible repeat (first | apply bN | apply bD | apply bA)); refine blk_put (cs := #[.int .u64 0, .int .u64 0]) ?_ 0 _ rfl; (with_reducible repeat (first | apply bN | apply bD | apply bA)); exact BK298.out⟩, ⟨by (with_reducible repeat (first | apply bN | apply bD | apply bA)); refine blk_put (cs := #[.int .u64 t294, .int .u64 0]) ?_ 1 _ rfl; (with_reducible repeat (first | apply bN | apply bD | apply bA)); refine blk_put (cs := #[.int .u64 0, .int .u64 0]) ?_ 0 _ rfl; (with_reducible repeat (first | apply bN | apply bD | apply bA)); refine blk_far ?_ NB299_298.out _; (with_reducible repeat (first | apply bN | apply bD | apply bA)); refine blk_far ?_ NB299_298.out _; (with_reducible repeat (first | apply bN | apply bD | apply bA)); exact BK299.out⟩, ⟨by repeat (first | (with_reducible first | exact HB.out | apply lA | apply lN | apply lD | refine lS ?_ ‹_›) | exact HB.out)⟩⟩
                  ·
                   rw [if_neg c66] at H
                   have c66b0 : (!(t280 == 0) || (!(t281 == 0))) = false := by simpa using c66
                   clear c66; have H' := Aside0.mk H
                   clear H; have hnb73 := NB286_264.out; have hnc73 := NB264_286.out; have hnb74 := NB286_265.out; have hnc74 := NB265_286.out; have hnb75 := NB286_287.out; have hnc75 := NB287_286.out; have hnb76 := NB286_298.out; have hnc76 := NB298_286.out; have hnb77 := NB286_299.out; have hnc77 := NB299_286.out; have hcz78_0 : w50.cell? ⟨gb286, 0, none⟩ = some (.int .u64 t280) := (blk_cell BK286.out 0).trans rfl; have hcz78_1 : w50.cell? ⟨gb286, 1, none⟩ = some (.int .u64 t281) := (blk_cell BK286.out 1).trans rfl; have hfz78_0 := blk_frozen BK286.out 0; have hfz78_1 := blk_frozen BK286.out 1; have hnb79 := NB287_264.out; have hnc79 := NB264_287.out; have hnb80 := NB287_265.out; have hnc80 := NB265_287.out; have hnb81 := NB287_298.out; have hnc81 := NB298_287.out; have hnb82 := NB287_299.out; have hnc82 := NB299_287.out; have hcz83_0 : w50.cell? ⟨gb287, 0, none⟩ = some (.int .u64 t282) := (blk_cell BK287.out 0).trans rfl; have hcz83_1 : w50.cell? ⟨gb287, 1, none⟩ = some (.int .u64 t283) := (blk_cell BK287.out 1).trans rfl; have hfz83_0 := blk_frozen BK287.out 0; have hfz83_1 := blk_frozen BK287.out 1
                   go_wp2
                   go_meet
                   case rel => exact ⟨_, ((!(t282 == 0) || (!(t283 == 0)))), (by first | rfl | (simp; done) | (simp [*]; done)), H', ⟨by have := HK1.out; have := HK2.out; first | omega | exact Nat.le_refl _⟩, ⟨by (with_reducible repeat (first | apply Kd.R_alloc | apply Kd.R_drewN | apply Kd.R_drew)); exact Kd.R_mono (Kd.R_far (p := ⟨gb299, 1, none⟩) (Kd.R_far (p := ⟨gb299, 0, none⟩) (Kd.R_far (p := ⟨gb298, 1, none⟩) (Kd.R_far (p := ⟨gb298, 0, none⟩) (Kd.R_types (Kd.R_types HO_35.out BK298.out (by decide)) BK299.out (by decide)) (fun _ hk => hk.1.2) (.int .u64 t292)) (fun _ hk => hk.1.2) (.int .u64 t293)) (fun _ hk => hk.2) (.int .u64 t294)) (fun _ hk => hk.2) (.int .u64 t295)) (fun _ hk => hk.1.1)⟩, ⟨by (with_reducible repeat (first | apply Kd.R_alloc | apply Kd.R_drewN | apply Kd.R_drew)); exact Kd.R_mono (Kd.R_far (p := ⟨gb299, 1, none⟩) (Kd.R_far (p := ⟨gb299, 0, none⟩) (Kd.R_far (p := ⟨gb298, 1, none⟩) (Kd.R_far (p := ⟨gb298, 0, none⟩) (Kd.R_types (Kd.R_types HO_50.out BK298.out (by decide)) BK299.out (by decide)) (fun _ hk => hk.1.2) (.int .u64 t292)) (fun _ hk => hk.1.2) (.int .u64 t293)) (fun _ hk => hk.2) (.int .u64 t294)) (fun _ hk => hk.2) (.int .u64 t295)) (fun _ hk => hk.1.1)⟩, ⟨by (with_reducible repeat (first | apply bN | apply bD | apply bA)); refine blk_far ?_ NB264_299.out _; (with_reducible repeat (first | apply bN | apply bD | apply bA)); refine blk_far ?_ NB264_299.out _; (with_reducible repeat (first | apply bN | apply bD | apply bA)); refine blk_far ?_ NB264_298.out _; (with_reducible repeat (first | apply bN | apply bD | apply bA)); refine blk_far ?_ NB264_298.out _; (with_reducible repeat (first | apply bN | apply bD | apply bA)); exact BK264.out⟩, ⟨by (with_reducible repeat (first | apply bN | apply bD | apply bA)); refine blk_far ?_ NB265_299.out _; (with_reducible repeat (first | apply bN | apply bD | apply bA)); refine blk_far ?_ NB265_299.out _; (with_reducible repeat (first | apply bN | apply bD | apply bA)); refine blk_far ?_ NB265_298.out _; (with_reducible repeat (first | apply bN | apply bD | apply bA)); refine blk_far ?_ NB265_298.out _; (with_reducible repeat (first | apply bN | apply bD | apply bA)); exact BK265.out⟩, ⟨by (with_reducible repeat (first | apply bN | apply bD | apply bA)); refine blk_far ?_ NB286_299.out _; (with_reducible repeat (first | apply bN | apply bD | apply bA)); refine blk_far ?_ NB286_299.out _; (with_reducible repeat (first | apply bN | apply bD | apply bA)); refine blk_far ?_ NB286_298.out _; (with_reducible repeat (first | apply bN | apply bD | apply bA)); refine blk_far ?_ NB286_298.out _; (with_reducible repeat (first | apply bN | apply bD | apply bA)); exact BK286.out⟩, ⟨by (with_reducible repeat (first | apply bN | apply bD | apply bA)); refine blk_far ?_ NB287_299.out _; (with_reducible repeat (first | apply bN | apply bD | apply bA)); refine blk_far ?_ NB287_299.out _; (with_reducible repeat (first | apply bN | apply bD | apply bA)); refine blk_far ?_ NB287_298.out _; (with_reducible repeat (first | apply bN | apply bD | apply bA)); refine blk_far ?_ NB287_298.out _; (with_reducible repeat (first | apply bN | apply bD | apply bA)); exact BK287.out⟩, ⟨by (with_reducible repeat (first | apply bN | apply bD | apply bA)); refine blk_far ?_ NB298_299.out _; (with_reducible repeat (first | apply bN | apply bD | apply bA)); refine blk_far ?_ NB298_299.out _; (with_reducible repeat (first | apply bN | apply bD | apply bA)); refine blk_put (cs := #[.int .u64 t292, .int .u64 0]) ?_ 1 _ rfl; (with_reducible repeat (first | apply bN | apply bD | apply bA)); refine blk_put (cs := #[.int .u64 0, .int .u64 0]) ?_ 0 _ rfl; (with_reducible repeat (first | apply bN | apply bD | apply bA)); exact BK298.out⟩, ⟨by (with_reducible repeat (first | apply bN | apply bD | apply bA)); refine blk_put (cs := #[.int .u64 t294, .int .u64 0]) ?_ 1 _ rfl; (with_reducible repeat (first | apply bN | apply bD | apply bA)); refine blk_put (cs := #[.int .u64 0, .int .u64 0]) ?_ 0 _ rfl; (with_reducible repeat (first | apply bN | apply bD | apply bA)); refine blk_far ?_ NB299_298.out _; (with_reducible repeat (first | apply bN | apply bD | apply bA)); refine blk_far ?_ NB299_298.out _; (with_reducible repeat (first | apply bN | apply bD | apply bA)); exact BK299.out⟩, ⟨by repeat (first | (with_reducible first | exact HB.out | apply lA | apply lN | apply lD | refine lS ?_ ‹_›) | exact HB.out)⟩⟩
               ·
                rw [if_neg c63] at H
                have c63b0 : (t297 == 0) = false := beq_eq_false_iff_ne.mpr c63; have c63b1 : (t297 != 0) = true := bne_iff_ne.mpr c63
                have H' := Aside0.mk H; clear H
                go_wp2
                go_meet
                case rel => exact ⟨_, (true), (by first | rfl | (simp; done) | (simp [*]; done)), H', ⟨by have := HK1.out; have := HK2.out; first | omega | exact Nat.le_refl _⟩, ⟨by (with_reducible repeat (first | apply Kd.R_alloc | apply Kd.R_drewN | apply Kd.R_drew)); exact Kd.R_mono (Kd.R_far (p := ⟨gb299, 1, none⟩) (Kd.R_far (p := ⟨gb299, 0, none⟩) (Kd.R_far (p := ⟨gb298, 1, none⟩) (Kd.R_far (p := ⟨gb298, 0, none⟩) (Kd.R_types (Kd.R_types HO_35.out BK298.out (by decide)) BK299.out (by decide)) (fun _ hk => hk.1.2) (.int .u64 t292)) (fun _ hk => hk.1.2) (.int .u64 t293)) (fun _ hk => hk.2) (.int .u64 t294)) (fun _ hk => hk.2) (.int .u64 t295)) (fun _ hk => hk.1.1)⟩, ⟨by (with_reducible repeat (first | apply Kd.R_alloc | apply Kd.R_drewN | apply Kd.R_drew)); exact Kd.R_mono (Kd.R_far (p := ⟨gb299, 1, none⟩) (Kd.R_far (p := ⟨gb299, 0, none⟩) (Kd.R_far (p := ⟨gb298, 1, none⟩) (Kd.R_far (p := ⟨gb298, 0, none⟩) (Kd.R_types (Kd.R_types HO_50.out BK298.out (by decide)) BK299.out (by decide)) (fun _ hk => hk.1.2) (.int .u64 t292)) (fun _ hk => hk.1.2) (.int .u64 t293)) (fun _ hk => hk.2) (.int .u64 t294)) (fun _ hk => hk.2) (.int .u64 t295)) (fun _ hk => hk.1.1)⟩, ⟨by (with_reducible repeat (first | apply bN | apply bD | apply bA)); refine blk_far ?_ NB264_299.out _; (with_reducible repeat (first | apply bN | apply bD | apply bA)); refine blk_far ?_ NB264_299.out _; (with_reducible repeat (first | apply bN | apply bD | apply bA)); refine blk_far ?_ NB264_298.out _; (with_reducible repeat (first | apply bN | apply bD | apply bA)); refine blk_far ?_ NB264_298.out _; (with_reducible repeat (first | apply bN | apply bD | apply bA)); exact BK264.out⟩, ⟨by (with_reducible repeat (first | apply bN | apply bD | apply bA)); refine blk_far ?_ NB265_299.out _; (with_reducible repeat (first | apply bN | apply bD | apply bA)); refine blk_far ?_ NB265_299.out _; (with_reducible repeat (first | apply bN | apply bD | apply bA)); refine blk_far ?_ NB265_298.out _; (with_reducible repeat (first | apply bN | apply bD | apply bA)); refine blk_far ?_ NB265_298.out _; (with_reducible repeat (first | apply bN | apply bD | apply bA)); exact BK265.out⟩, ⟨by (with_reducible repeat (first | apply bN | apply bD | apply bA)); refine blk_far ?_ NB286_299.out _; (with_reducible repeat (first | apply bN | apply bD | apply bA)); refine blk_far ?_ NB286_299.out _; (with_reducible repeat (first | apply bN | apply bD | apply bA)); refine blk_far ?_ NB286_298.out _; (with_reducible repeat (first | apply bN | apply bD | apply bA)); refine blk_far ?_ NB286_298.out _; (with_reducible repeat (first | apply bN | apply bD | apply bA)); exact BK286.out⟩, ⟨by (with_reducible repeat (first | apply bN | apply bD | apply bA)); refine blk_far ?_ NB287_299.out _; (with_reducible repeat (first | apply bN | apply bD | apply bA)); refine blk_far ?_ NB287_299.out _; (with_reducible repeat (first | apply bN | apply bD | apply bA)); refine blk_far ?_ NB287_298.out _; (with_reducible repeat (first | apply bN | apply bD | apply bA)); refine blk_far ?_ NB287_298.out _; (with_reducible repeat (first | apply bN | apply bD | apply bA)); exact BK287.out⟩, ⟨by (with_reducible repeat (first | apply bN | apply bD | apply bA)); refine blk_far ?_ NB298_299.out _; (with_reducible repeat (first | apply bN | apply bD | apply bA)); refine blk_far ?_ NB298_299.out _; (with_reducible repeat (first | apply bN | apply bD | apply bA)); refine blk_put (cs := #[.int .u64 t292, .int .u64 0]) ?_ 1 _ rfl; (with_reducible repeat (first | apply bN | apply bD | apply bA)); refine blk_put (cs := #[.int .u64 0, .int .u64 0]) ?_ 0 _ rfl; (with_reducible repeat (first | apply bN | apply bD | apply bA)); exact BK298.out⟩, ⟨by (with_reducible repeat (first | apply bN | apply bD | apply bA)); refine blk_put (cs := #[.int .u64 t294, .int .u64 0]) ?_ 1 _ rfl; (with_reducible repeat (first | apply bN | apply bD | apply bA)); refine blk_put (cs := #[.int .u64 0, .int .u64 0]) ?_ 0 _ rfl; (with_reducible repeat (first | apply bN | apply bD | apply bA)); refine blk_far ?_ NB299_298.out _; (with_reducible repeat (first | apply bN | apply bD | apply bA)); refine blk_far ?_ NB299_298.out _; (with_reducible repeat (first | apply bN | apply bD | apply bA)); exact BK299.out⟩, ⟨by repeat (first | (with_reducible first | exact HB.out | apply lA | apply lN | apply lD | refine lS ?_ ‹_›) | exact HB.out)⟩⟩
              ·
               rw [if_neg c62] at H
               have c62b0 : (t285 == 0) = false := beq_eq_false_iff_ne.mpr c62; have c62b1 : (t285 != 0) = true := bne_iff_ne.mpr c62
               (first | rw [c62b0] | (simp only [i64_w, i32_w]; rw [c62b0]) | skip)
               have H' := Aside0.mk H; clear H
               go_wp2
               go_meet
               case rel => exact ⟨_, (true), (by first | rfl | (simp; done) | (simp [*]; done)), H', ⟨by have := HK1.out; have := HK2.out; first | omega | exact Nat.le_refl _⟩, ⟨by (with_reducible repeat (first | apply Kd.R_alloc | apply Kd.R_drewN | apply Kd.R_drew)); exact Kd.R_mono (Kd.R_far (p := ⟨gb299, 1, none⟩) (Kd.R_far (p := ⟨gb299, 0, none⟩) (Kd.R_far (p := ⟨gb298, 1, none⟩) (Kd.R_far (p := ⟨gb298, 0, none⟩) (Kd.R_types (Kd.R_types HO_35.out BK298.out (by decide)) BK299.out (by decide)) (fun _ hk => hk.1.2) (.int .u64 t292)) (fun _ hk => hk.1.2) (.int .u64 t293)) (fun _ hk => hk.2) (.int .u64 t294)) (fun _ hk => hk.2) (.int .u64 t295)) (fun _ hk => hk.1.1)⟩, ⟨by (with_reducible repeat (first | apply Kd.R_alloc | apply Kd.R_drewN | apply Kd.R_drew)); exact Kd.R_mono (Kd.R_far (p := ⟨gb299, 1, none⟩) (Kd.R_far (p := ⟨gb299, 0, none⟩) (Kd.R_far (p := ⟨gb298, 1, none⟩) (Kd.R_far (p := ⟨gb298, 0, none⟩) (Kd.R_types (Kd.R_types HO_50.out BK298.out (by decide)) BK299.out (by decide)) (fun _ hk => hk.1.2) (.int .u64 t292)) (fun _ hk => hk.1.2) (.int .u64 t293)) (fun _ hk => hk.2) (.int .u64 t294)) (fun _ hk => hk.2) (.int .u64 t295)) (fun _ hk => hk.1.1)⟩, ⟨by (with_reducible repeat (first | apply bN | apply bD | apply bA)); refine blk_far ?_ NB264_299.out _; (with_reducible repeat (first | apply bN | apply bD | apply bA)); refine blk_far ?_ NB264_299.out _; (with_reducible repeat (first | apply bN | apply bD | apply bA)); refine blk_far ?_ NB264_298.out _; (with_reducible repeat (first | apply bN | apply bD | apply bA)); refine blk_far ?_ NB264_298.out _; (with_reducible repeat (first | apply bN | apply bD | apply bA)); exact BK264.out⟩, ⟨by (with_reducible repeat (first | apply bN | apply bD | apply bA)); refine blk_far ?_ NB265_299.out _; (with_reducible repeat (first | apply bN | apply bD | apply bA)); refine blk_far ?_ NB265_299.out _; (with_reducible repeat (first | apply bN | apply bD | apply bA)); refine blk_far ?_ NB265_298.out _; (with_reducible repeat (first | apply bN | apply bD | apply bA)); refine blk_far ?_ NB265_298.out _; (with_reducible repeat (first | apply bN | apply bD | apply bA)); exact BK265.out⟩, ⟨by (with_reducible repeat (first | apply bN | apply bD | apply bA)); refine blk_far ?_ NB286_299.out _; (with_reducible repeat (first | apply bN | apply bD | apply bA)); refine blk_far ?_ NB286_299.out _; (with_reducible repeat (first | apply bN | apply bD | apply bA)); refine blk_far ?_ NB286_298.out _; (with_reducible repeat (first | apply bN | apply bD | apply bA)); refine blk_far ?_ NB286_298.out _; (with_reducible repeat (first | apply bN | apply bD | apply bA)); exact BK286.out⟩, ⟨by (with_reducible repeat (first | apply bN | apply bD | apply bA)); refine blk_far ?_ NB287_299.out _; (with_reducible repeat (first | apply bN | apply bD | apply bA)); refine blk_far ?_ NB287_299.out _; (with_reducible repeat (first | apply bN | apply bD | apply bA)); refine blk_far ?_ NB287_298.out _; (with_reducible repeat (first | apply bN | apply bD | apply bA)); refine blk_far ?_ NB287_298.out _; (with_reducible repeat (first | apply bN | apply bD | apply bA)); exact BK287.out⟩, ⟨by (with_reducible repeat (first | apply bN | apply bD | apply bA)); refine blk_far ?_ NB298_299.out _; (with_reducible repeat (first | apply bN | apply bD | apply bA)); refine blk_far ?_ NB298_299.out _; (with_reducible repeat (first | apply bN | apply bD | apply bA)); refine blk_put (cs := #[.int .u64 t292, .int .u64 0]) ?_ 1 _ rfl; (with_reducible repeat (first | apply bN | apply bD | apply bA)); refine blk_put (cs := #[.int .u64 0, .int .u64 0]) ?_ 0 _ rfl; (with_reducible repeat (first | apply bN | apply bD | apply bA)); exact BK298.out⟩, ⟨by (with_reducible repeat (first | apply bN | apply bD | apply bA)); refine blk_put (cs := #[.int .u64 t294, .int .u64 0]) ?_ 1 _ rfl; (with_reducible repeat (first | apply bN | apply bD | apply bA)); refine blk_put (cs := #[.int .u64 0, .int .u64 0]) ?_ 0 _ rfl; (with_reducible repeat (first | apply bN | apply bD | apply bA)); refine blk_far ?_ NB299_298.out _; (with_reducible repeat (first | apply bN | apply bD | apply bA)); refine blk_far ?_ NB299_298.out _; (with_reducible repeat (first | apply bN | apply bD | apply bA)); exact BK299.out⟩, ⟨by repeat (first | (with_reducible first | exact HB.out | apply lA | apply lN | apply lD | refine lS ?_ ‹_›) | exact HB.out)⟩⟩
             case rest => as_aux_lemma =>
              clear HC33; (try clear c1); (try clear c2); (try clear p2); (try clear q2); (try clear hx2); (try clear c3); (try clear c4); (try clear c5); (try clear c6); (try clear p6); (try clear c7); (try clear c8); (try clear c9); (try clear c17); (try clear c17b0); (try clear c18); (try clear c18b0); (try clear c19); (try clear c19b0); (try clear c25); (try clear c25b0); (try clear c26); (try clear c26b0); (try clear c27); (try clear c27b0); (try clear p27); (try clear q27); (try clear hx27); (try clear c29); (try clear c32); (try clear c33); (try clear c34); (try clear c35); (try clear c36); (try clear c37); (try clear c39); (try clear c40); (try clear c41); (try clear c43); (try clear c44); (try clear c51); (try clear c52); (try clear c53); (try clear c54); (try clear c55); (try clear c57); (try clear c58); (try clear c59); (try clear c60); (try clear c62); (try clear c62b0); (try clear c62b1); (try clear c63); (try clear c63b0); (try clear c63b1); (try clear c64); (try clear c64b0); (try clear c64b1); (try clear c64b2); (try clear p64); (try clear c65); (try clear c66); (try clear c66b0); (try clear c67); (try clear c68); (try clear c69); (try clear c70); (try clear c71); (try clear c73); (try clear c74); (try clear c75); (try clear c76); (try clear c77); (try clear c79); (try clear c80); (try clear c81); (try clear c82); (try clear hcz35_0); (try clear hcz35_1); (try clear hcz35_2); (try clear hcz35_3); (try clear hcz42_0); (try clear hcz42_1); (try clear hcz45_0); (try clear hcz45_1)
              (try clear hcz56_0); (try clear hcz56_1)
              (try clear hcz61_0); (try clear hcz61_1)
              (try clear hcz72_0); (try clear hcz72_1)
              (try clear hcz78_0); (try clear hcz78_1)
              (try clear hcz83_0); (try clear hcz83_1)
              (try clear hfz35_0); (try clear hfz35_1)
              (try clear hfz35_2); (try clear hfz35_3)
              (try clear hfz42_0); (try clear hfz42_1)
              (try clear hfz45_0); (try clear hfz45_1)
              (try clear hfz56_0); (try clear hfz56_1)
              (try clear hfz61_0); (try clear hfz61_1)
              (try clear hfz72_0); (try clear hfz72_1)
              (try clear hfz78_0); (try clear hfz78_1)
              (try clear hfz83_0); (try clear hfz83_1)
              (try clear hx272_0); (try clear hx279_0)
              (try clear p2); (try clear p272)
              (try clear p279); (try clear q2)
              (try clear q272); (try clear q279)
              obtain ⟨kq, x129_32, rfl, HA, HJ32, HO_35, HO_50, BK264, BK265, BK286, BK287, BK298, BK299, HB⟩ := hcut
              cases kq with
              | zero => exact absurd HA.out (by simp [posternlaw15_SpanNarrow.j2])
              | succ kj32 =>
               have H := HA.out
               clear HA
               simp only [posternlaw15_SpanNarrow.j2] at H
               by_cases c84 : x129_32 = true
               ·
                subst c84
                have H1 : (some false) = some r := by rw [if_pos rfl] at H; exact H
                clear H; have H := H1; clear H1
                exact absurd (H.trans (congrArg some hr_.out)) (by simp)
               ·
                replace c84 := Bool.eq_false_iff.mpr c84
                subst c84
                have H1 : (if (t274 == (rdOf false y276 x52_2)) = true then (if t284 = true then (if t267 < t280 then (posternlaw15_SpanNarrow.j3 kj32 a0 t267 t268 (rdOf false y269 x37_1) t274 true t284 y269 (y269.length : Int) x37_1 y276 (y276.length : Int) x52_2 true a1_0 a1_1 a1_2 a1_3 t280 t281 t282 t283) else (if t267 > t281 then (posternlaw15_SpanNarrow.j3 kj32 a0 t267 t268 (rdOf false y269 x37_1) t274 true t284 y269 (y269.length : Int) x37_1 y276 (y276.length : Int) x52_2 true a1_0 a1_1 a1_2 a1_3 t280 t281 t282 t283) else (if t268 < t282 then (posternlaw15_SpanNarrow.j3 kj32 a0 t267 t268 (rdOf false y269 x37_1) t274 true t284 y269 (y269.length : Int) x37_1 y276 (y276.length : Int) x52_2 true a1_0 a1_1 a1_2 a1_3 t280 t281 t282 t283) else (posternlaw15_SpanNarrow.j3 kj32 a0 t267 t268 (rdOf false y269 x37_1) t274 true t284 y269 (y269.length : Int) x37_1 y276 (y276.length : Int) x52_2 (decide (t268 > t283)) a1_0 a1_1 a1_2 a1_3 t280 t281 t282 t283)))) else (posternlaw15_SpanNarrow.j3 kj32 a0 t267 t268 (rdOf false y269 x37_1) t274 true t284 y269 (y269.length : Int) x37_1 y276 (y276.length : Int) x52_2 true a1_0 a1_1 a1_2 a1_3 t280 t281 t282 t283)) else (posternlaw15_SpanNarrow.j3 kj32 a0 t267 t268 (rdOf false y269 x37_1) t274 true t284 y269 (y269.length : Int) x37_1 y276 (y276.length : Int) x52_2 false a1_0 a1_1 a1_2 a1_3 t280 t281 t282 t283)) = some r := by rw [if_neg (show ¬ (false = true) by decide)] at H; exact H
                clear H; have H := H1; clear H1
                have HC85 := Aside0.mk H
                clear H
                go_upto_region 18 with (fail)
                go_cut [160] (fun v160 wc => ∃ (kq : Nat) (x160_84 : Bool), v160 = .bool x160_84 ∧ Aside0 (posternlaw15_SpanNarrow.j3 kq a0 t267 t268 (rdOf false y269 x37_1) t274 true t284 y269 (y269.length : Int) x37_1 y276 (y276.length : Int) x52_2 x160_84 a1_0 a1_1 a1_2 a1_3 t280 t281 t282 t283 = some r) ∧ Aside0 (kq ≤ kj32) ∧ Aside0 (Kd.R Kd.bool 4 wc w.heap.size (fun k_ => some k_ ≠ ((.slice (some ad279) y276.length co24) : Value).ownBlock) (.slice (some ad272) y269.length co16) y269) ∧ Aside0 (Kd.R Kd.bool 4 wc w.heap.size (fun k_ => some k_ ≠ ((.slice (some ad272) y269.length co16) : Value).ownBlock) (.slice (some ad279) y276.length co24) y276) ∧ Aside0 (wc.heap[gb264]? = some (.cells #[.int .u64 a1_0, .int .u64 a1_1, .int .u64 a1_2, .int .u64 a1_3] 63 (0, 0))) ∧ Aside0 (wc.heap[gb265]? = some (.cells #[.int .u64 a2_0, .int .u64 a2_1] 26 (0, 0))) ∧ Aside0 (wc.heap[gb286]? = some (.cells #[.int .u64 t280, .int .u64 t281] 58 (0, 0))) ∧ Aside0 (wc.heap[gb287]? = some (.cells #[.int .u64 t282, .int .u64 t283] 58 (0, 0))) ∧ Aside0 (wc.heap[gb298]? = some (.cells #[.int .u64 t292, .int .u64 t293] 58 (0, 0))) ∧ Aside0 (wc.heap[gb299]? = some (.cells #[.int .u64 t294, .int .u64 t295] 58 (0, 0))) ∧ Aside0 (Below w.heap.size w wc))
                case first => as_aux_lemma =>
                 have H := HC85.out
                 clear HC85
                 by_cases c86 : (t274 == (rdOf false y276 x52_2)) = true
                 ·
                  rw [if_pos c86] at H
                  have c86b0 : (t274 == (rdOf false y276 x52_2)) = true := c86
                  (try (have c86b1 : decide (t274 = (rdOf false y276 x52_2)) = true := by simpa using c86)); (try (have c86b2 : (t274 == (rdOf false y276 x52_2)) = true := by simpa using c86)); clear c86
                  (first | rw [c86b0] | (simp only [i64_w, i32_w]; rw [c86b0]) | skip)
                  by_cases c87 : t284 = true
                  ·
                   subst c87
                   have H1 : (if t267 < t280 then (posternlaw15_SpanNarrow.j3 kj32 a0 t267 t268 (rdOf false y269 x37_1) t274 true true y269 (y269.length : Int) x37_1 y276 (y276.length : Int) x52_2 true a1_0 a1_1 a1_2 a1_3 t280 t281 t282 t283) else (if t267 > t281 then (posternlaw15_SpanNarrow.j3 kj32 a0 t267 t268 (rdOf false y269 x37_1) t274 true true y269 (y269.length : Int) x37_1 y276 (y276.length : Int) x52_2 true a1_0 a1_1 a1_2 a1_3 t280 t281 t282 t283) else (if t268 < t282 then (posternlaw15_SpanNarrow.j3 kj32 a0 t267 t268 (rdOf false y269 x37_1) t274 true true y269 (y269.length : Int) x37_1 y276 (y276.length : Int) x52_2 true a1_0 a1_1 a1_2 a1_3 t280 t281 t282 t283) else (posternlaw15_SpanNarrow.j3 kj32 a0 t267 t268 (rdOf false y269 x37_1) t274 true true y269 (y269.length : Int) x37_1 y276 (y276.length : Int) x52_2 (decide (t268 > t283)) a1_0 a1_1 a1_2 a1_3 t280 t281 t282 t283)))) = some r := by rw [if_pos rfl] at H; exact H
                   clear H; have H := H1; clear H1
                   by_cases c88 : t267 < t280
                   ·
                    rw [if_pos c88] at H
                    have c88b0 : decide (t267 < t280) = true := decide_eq_true c88; clear c88; have H' := Aside0.mk H
                    clear H; have hnb89 := NB286_264.out; have hnc89 := NB264_286.out; have hnb90 := NB286_265.out; have hnc90 := NB265_286.out; have hnb91 := NB286_287.out; have hnc91 := NB287_286.out; have hnb92 := NB286_298.out; have hnc92 := NB298_286.out; have hnb93 := NB286_299.out; have hnc93 := NB299_286.out; have hcz94_0 : wc.cell? ⟨gb286, 0, none⟩ = some (.int .u64 t280) := (blk_cell BK286.out 0).trans rfl; have hcz94_1 : wc.cell? ⟨gb286, 1, none⟩ = some (.int .u64 t281) := (blk_cell BK286.out 1).trans rfl; have hfz94_0 := blk_frozen BK286.out 0; have hfz94_1 := blk_frozen BK286.out 1
                    go_wp2
                    go_meet
                    case rel => exact ⟨_, (true), (by first | rfl | (simp; done) | (simp [*]; done)), H', ⟨by have := HK1.out; have := HK2.out; have := HJ32.out; first | omega | exact Nat.le_refl _⟩, ⟨by (with_reducible repeat (first | apply Kd.R_alloc | apply Kd.R_drewN | apply Kd.R_drew)); exact HO_35.out⟩, ⟨by (with_reducible repeat (first | apply Kd.R_alloc | apply Kd.R_drewN | apply Kd.R_drew)); exact HO_50.out⟩, ⟨by (with_reducible repeat (first | apply bN | apply bD | apply bA)); exact BK264.out⟩, ⟨by (with_reducible repeat (first | apply bN | apply bD | apply bA)); exact BK265.out⟩, ⟨by (with_reducible repeat (first | apply bN | apply bD | apply bA)); exact BK286.out⟩, ⟨by (with_reducible repeat (first | apply bN | apply bD | apply bA)); exact BK287.out⟩, ⟨by (with_reducible repeat (first | apply bN | apply bD | apply bA)); exact BK298.out⟩, ⟨by (with_reducible repeat (first | apply bN | apply bD | apply bA)); exact BK299.out⟩, ⟨by repeat (first | (with_reducible first | exact HB.out | apply lA | apply lN | apply lD | refine lS ?_ ‹_›) | exact HB.out)⟩⟩
                   ·
                    rw [if_neg c88] at H
                    have c88b0 : decide (t267 < t280) = false := decide_eq_false c88; clear c88
                    by_cases c95 : t267 > t281
                    ·
                     rw [if_pos c95] at H
                     have c95b0 : decide (t281 < t267) = true := decide_eq_true c95; clear c95; have H' := Aside0.mk H
                     clear H; have hnb96 := NB286_264.out; have hnc96 := NB264_286.out; have hnb97 := NB286_265.out; have hnc97 := NB265_286.out; have hnb98 := NB286_287.out; have hnc98 := NB287_286.out; have hnb99 := NB286_298.out; have hnc99 := NB298_286.out; have hnb100 := NB286_299.out; have hnc100 := NB299_286.out; have hcz101_0 : wc.cell? ⟨gb286, 0, none⟩ = some (.int .u64 t280) := (blk_cell BK286.out 0).trans rfl; have hcz101_1 : wc.cell? ⟨gb286, 1, none⟩ = some (.int .u64 t281) := (blk_cell BK286.out 1).trans rfl; have hfz101_0 := blk_frozen BK286.out 0; have hfz101_1 := blk_frozen BK286.out 1
                     go_wp2
                     go_meet
                     case rel => exact ⟨_, (true), (by first | rfl | (simp; done) | (simp [*]; done)), H', ⟨by have := HK1.out; have := HK2.out; have := HJ32.out; first | omega | exact Nat.le_refl _⟩, ⟨by (with_reducible repeat (first | apply Kd.R_alloc | apply Kd.R_drewN | apply Kd.R_drew)); exact HO_35.out⟩, ⟨by (with_reducible repeat (first | apply Kd.R_alloc | apply Kd.R_drewN | apply Kd.R_drew)); exact HO_50.out⟩, ⟨by (with_reducible repeat (first | apply bN | apply bD | apply bA)); exact BK264.out⟩, ⟨by (with_reducible repeat (first | apply bN | apply bD | apply bA)); exact BK265.out⟩, ⟨by (with_reducible repeat (first | apply bN | apply bD | apply bA)); exact BK286.out⟩, ⟨by (with_reducible repeat (first | apply bN | apply bD | apply bA)); exact BK287.out⟩, ⟨by (with_reducible repeat (first | apply bN | apply bD | apply bA)); exact BK298.out⟩, ⟨by (with_reducible repeat (first | apply bN | apply bD | apply bA)); exact BK299.out⟩, ⟨by repeat (first | (with_reducible first | exact HB.out | apply lA | apply lN | apply lD | refine lS ?_ ‹_›) | exact HB.out)⟩⟩
                    ·
                     rw [if_neg c95] at H
                     have c95b0 : decide (t281 < t267) = false := decide_eq_false c95; clear c95
                     by_cases c102 : t268 < t282
                     ·
                      rw [if_pos c102] at H
                      have c102b0 : decide (t268 < t282) = true := decide_eq_true c102; clear c102; have H' := Aside0.mk H
                      clear H; have hnb103 := NB286_264.out; have hnc103 := NB264_286.out; have hnb104 := NB286_265.out; have hnc104 := NB265_286.out; have hnb105 := NB286_287.out; have hnc105 := NB287_286.out; have hnb106 := NB286_298.out; have hnc106 := NB298_286.out; have hnb107 := NB286_299.out; have hnc107 := NB299_286.out; have hcz108_0 : wc.cell? ⟨gb286, 0, none⟩ = some (.int .u64 t280) := (blk_cell BK286.out 0).trans rfl; have hcz108_1 : wc.cell? ⟨gb286, 1, none⟩ = some (.int .u64 t281) := (blk_cell BK286.out 1).trans rfl; have hfz108_0 := blk_frozen BK286.out 0; have hfz108_1 := blk_frozen BK286.out 1; have hnb109 := NB287_264.out; have hnc109 := NB264_287.out; have hnb110 := NB287_265.out; have hnc110 := NB265_287.out; have hnb111 := NB287_298.out; have hnc111 := NB298_287.out; have hnb112 := NB287_299.out; have hnc112 := NB299_287.out; have hcz113_0 : wc.cell? ⟨gb287, 0, none⟩ = some (.int .u64 t282) := (blk_cell BK287.out 0).trans rfl; have hcz113_1 : wc.cell? ⟨gb287, 1, none⟩ = some (.int .u64 t283) := (blk_cell BK287.out 1).trans rfl; have hfz113_0 := blk_frozen BK287.out 0; have hfz113_1 := blk_frozen BK287.out 1
                      go_wp2
                      go_meet
                      case rel => exact ⟨_, (true), (by first | rfl | (simp; done) | (simp [*]; done)), H', ⟨by have := HK1.out; have := HK2.out; have := HJ32.out; first | omega | exact Nat.le_refl _⟩, ⟨by (with_reducible repeat (first | apply Kd.R_alloc | apply Kd.R_drewN | apply Kd.R_drew)); exact HO_35.out⟩, ⟨by (with_reducible repeat (first | apply Kd.R_alloc | apply Kd.R_drewN | apply Kd.R_drew)); exact HO_50.out⟩, ⟨by (with_reducible repeat (first | apply bN | apply bD | apply bA)); exact BK264.out⟩, ⟨by (with_reducible repeat (first | apply bN | apply bD | apply bA)); exact BK265.out⟩, ⟨by (with_reducible repeat (first | apply bN | apply bD | apply bA)); exact BK286.out⟩, ⟨by (with_reducible repeat (first | apply bN | apply bD | apply bA)); exact BK287.out⟩, ⟨by (with_reducible repeat (first | apply bN | apply bD | apply bA)); exact BK298.out⟩, ⟨by (with_reducible repeat (first | apply bN | apply bD | apply bA)); exact BK299.out⟩, ⟨by repeat (first | (with_reducible first | exact HB.out | apply lA | apply lN | apply lD | refine lS ?_ ‹_›) | exact HB.out)⟩⟩
                     ·
                      rw [if_neg c102] at H
                      have c102b0 : decide (t268 < t282) = false := decide_eq_false c102; clear c102; have H' := Aside0.mk H
                      clear H; have hnb114 := NB286_264.out; have hnc114 := NB264_286.out; have hnb115 := NB286_265.out; have hnc115 := NB265_286.out; have hnb116 := NB286_287.out; have hnc116 := NB287_286.out; have hnb117 := NB286_298.out; have hnc117 := NB298_286.out; have hnb118 := NB286_299.out; have hnc118 := NB299_286.out; have hcz119_0 : wc.cell? ⟨gb286, 0, none⟩ = some (.int .u64 t280) := (blk_cell BK286.out 0).trans rfl; have hcz119_1 : wc.cell? ⟨gb286, 1, none⟩ = some (.int .u64 t281) := (blk_cell BK286.out 1).trans rfl; have hfz119_0 := blk_frozen BK286.out 0; have hfz119_1 := blk_frozen BK286.out 1; have hnb120 := NB287_264.out; have hnc120 := NB264_287.out; have hnb121 := NB287_265.out; have hnc121 := NB265_287.out; have hnb122 := NB287_298.out; have hnc122 := NB298_287.out; have hnb123 := NB287_299.out; have hnc123 := NB299_287.out; have hcz124_0 : wc.cell? ⟨gb287, 0, none⟩ = some (.int .u64 t282) := (blk_cell BK287.out 0).trans rfl; have hcz124_1 : wc.cell? ⟨gb287, 1, none⟩ = some (.int .u64 t283) := (blk_cell BK287.out 1).trans rfl; have hfz124_0 := blk_frozen BK287.out 0; have hfz124_1 := blk_frozen BK287.out 1
                      go_wp2
                      go_meet
                      case rel => exact ⟨_, (decide (t268 > t283)), (by first | rfl | (simp; done) | (simp [*]; done)), H', ⟨by have := HK1.out; have := HK2.out; have := HJ32.out; first | omega | exact Nat.le_refl _⟩, ⟨by (with_reducible repeat (first | apply Kd.R_alloc | apply Kd.R_drewN | apply Kd.R_drew)); exact HO_35.out⟩, ⟨by (with_reducible repeat (first | apply Kd.R_alloc | apply Kd.R_drewN | apply Kd.R_drew)); exact HO_50.out⟩, ⟨by (with_reducible repeat (first | apply bN | apply bD | apply bA)); exact BK264.out⟩, ⟨by (with_reducible repeat (first | apply bN | apply bD | apply bA)); exact BK265.out⟩, ⟨by (with_reducible repeat (first | apply bN | apply bD | apply bA)); exact BK286.out⟩, ⟨by (with_reducible repeat (first | apply bN | apply bD | apply bA)); exact BK287.out⟩, ⟨by (with_reducible repeat (first | apply bN | apply bD | apply bA)); exact BK298.out⟩, ⟨by (with_reducible repeat (first | apply bN | apply bD | apply bA)); exact BK299.out⟩, ⟨by repeat (first | (with_reducible first | exact HB.out | apply lA | apply lN | apply lD | refine lS ?_ ‹_›) | exact HB.out)⟩⟩
                  ·
                   replace c87 := Bool.eq_false_iff.mpr c87
                   subst c87
                   have H1 : (posternlaw15_SpanNarrow.j3 kj32 a0 t267 t268 (rdOf false y269 x37_1) t274 true false y269 (y269.length : Int) x37_1 y276 (y276.length : Int) x52_2 true a1_0 a1_1 a1_2 a1_3 t280 t281 t282 t283) = some r := by rw [if_neg (show ¬ (false = true) by decide)] at H; exact H
                   clear H; have H := H1; clear H1; have H' := Aside0.mk H; clear H
                   go_wp2
                   go_meet
                   case rel => exact ⟨_, (true), (by first | rfl | (simp; done) | (simp [*]; done)), H', ⟨by have := HK1.out; have := HK2.out; have := HJ32.out; first | omega | exact Nat.le_refl _⟩, ⟨by (with_reducible repeat (first | apply Kd.R_alloc | apply Kd.R_drewN | apply Kd.R_drew)); exact HO_35.out⟩, ⟨by (with_reducible repeat (first | apply Kd.R_alloc | apply Kd.R_drewN | apply Kd.R_drew)); exact HO_50.out⟩, ⟨by (with_reducible repeat (first | apply bN | apply bD | apply bA)); exact BK264.out⟩, ⟨by (with_reducible repeat (first | apply bN | apply bD | apply bA)); exact BK265.out⟩, ⟨by (with_reducible repeat (first | apply bN | apply bD | apply bA)); exact BK286.out⟩, ⟨by (with_reducible repeat (first | apply bN | apply bD | apply bA)); exact BK287.out⟩, ⟨by (with_reducible repeat (first | apply bN | apply bD | apply bA)); exact BK298.out⟩, ⟨by (with_reducible repeat (first | apply bN | apply bD | apply bA)); exact BK299.out⟩, ⟨by repeat (first | (with_reducible first | exact HB.out | apply lA | apply lN | apply lD | refine lS ?_ ‹_›) | exact HB.out)⟩⟩
                 ·
                  rw [if_neg c86] at H
                  have c86b0 : (t274 == (rdOf false y276 x52_2)) = false := by simpa using c86
                  (try (have c86b1 : decide (t274 = (rdOf false y276 x52_2)) = false := by simpa using c86)); (try (have c86b2 : (t274 == (rdOf false y276 x52_2)) = false := by simpa using c86)); (try (have c86b3 : ¬ (t274 = (rdOf false y276 x52_2)) := by simpa using c86)); clear c86
                  (first | rw [c86b0] | (simp only [i64_w, i32_w]; rw [c86b0]) | skip)
                  have H' := Aside0.mk H; clear H
                  go_wp2
                  go_meet
                  case rel => exact ⟨_, (false), (by first | rfl | (simp; done) | (simp [*]; done)), H', ⟨by have := HK1.out; have := HK2.out; have := HJ32.out; first | omega | exact Nat.le_refl _⟩, ⟨by (with_reducible repeat (first | apply Kd.R_alloc | apply Kd.R_drewN | apply Kd.R_drew)); exact HO_35.out⟩, ⟨by (with_reducible repeat (first | apply Kd.R_alloc | apply Kd.R_drewN | apply Kd.R_drew)); exact HO_50.out⟩, ⟨by (with_reducible repeat (first | apply bN | apply bD | apply bA)); exact BK264.out⟩, ⟨by (with_reducible repeat (first | apply bN | apply bD | apply bA)); exact BK265.out⟩, ⟨by (with_reducible repeat (first | apply bN | apply bD | apply bA)); exact BK286.out⟩, ⟨by (with_reducible repeat (first | apply bN | apply bD | apply bA)); exact BK287.out⟩, ⟨by (with_reducible repeat (first | apply bN | apply bD | apply bA)); exact BK298.out⟩, ⟨by (with_reducible repeat (first | apply bN | apply bD | apply bA)); exact BK299.out⟩, ⟨by repeat (first | (with_reducible first | exact HB.out | apply lA | apply lN | apply lD | refine lS ?_ ‹_›) | exact HB.out)⟩⟩
                case rest => as_aux_lemma =>
                 clear HC85; (try clear c1); (try clear c2); (try clear p2); (try clear q2); (try clear hx2); (try clear c3); (try clear c4); (try clear c5); (try clear c6); (try clear p6); (try clear c7); (try clear c8); (try clear c9); (try clear c10); (try clear c11); (try clear c12); (try clear c17); (try clear c17b0); (try clear c18); (try clear c18b0); (try clear c19); (try clear c19b0); (try clear c25); (try clear c25b0); (try clear c26); (try clear c26b0); (try clear c27); (try clear c27b0); (try clear p27); (try clear q27); (try clear hx27); (try clear c29); (try clear c32); (try clear c33); (try clear c34); (try clear c35); (try clear c36); (try clear c37); (try clear c39); (try clear c40); (try clear c41); (try clear c43); (try clear c44); (try clear c51); (try clear c52); (try clear c53); (try clear c54); (try clear c55); (try clear c57); (try clear c58); (try clear c59); (try clear c60); (try clear c62); (try clear c62b0); (try clear c62b1); (try clear c63); (try clear c63b0); (try clear c63b1); (try clear c64); (try clear c64b0); (try clear c64b1); (try clear c64b2); (try clear p64); (try clear c65); (try clear c66); (try clear c66b0); (try clear c67); (try clear c68); (try clear c69); (try clear c70); (try clear c71); (try clear c73); (try clear c74); (try clear c75); (try clear c76); (try clear c77); (try clear c79); (try clear c80); (try clear c81); (try clear c82); (try clear c84); (try clear c86); (try clear c86b0); (try clear c86b1); (try clear c86b2); (try clear c87)
                 (try clear c88); (try clear c88b0)
                 (try clear c89); (try clear c90)
                 (try clear c91); (try clear c92)
                 (try clear c93); (try clear c95)
                 (try clear c95b0); (try clear c96)
                 (try clear c97); (try clear c98)
                 (try clear c99); (try clear c100)
                 (try clear c102); (try clear c102b0)
                 (try clear c103); (try clear c104)
                 (try clear c105); (try clear c106)
                 (try clear c107); (try clear c109)
                 (try clear c110); (try clear c111)
                 (try clear c112); (try clear c114)
                 (try clear c115); (try clear c116)
                 (try clear c117); (try clear c118)
                 (try clear c120); (try clear c121)
                 (try clear c122); (try clear c123)
                 (try clear hcz101_0); (try clear hcz101_1)
                 (try clear hcz108_0); (try clear hcz108_1)
                 (try clear hcz113_0); (try clear hcz113_1)
                 (try clear hcz119_0); (try clear hcz119_1)
                 (try clear hcz124_0); (try clear hcz124_1)
                 (try clear hcz35_0); (try clear hcz35_1)
                 (try clear hcz35_2); (try clear hcz35_3)
                 (try clear hcz42_0); (try clear hcz42_1)
                 (try clear hcz45_0); (try clear hcz45_1)
                 (try clear hcz56_0); (try clear hcz56_1)
                 (try clear hcz61_0); (try clear hcz61_1)
                 (try clear hcz72_0); (try clear hcz72_1)
                 (try clear hcz78_0); (try clear hcz78_1)
                 (try clear hcz83_0); (try clear hcz83_1)
                 (try clear hcz94_0); (try clear hcz94_1)
                 (try clear hfz101_0); (try clear hfz101_1)
                 (try clear hfz108_0); (try clear hfz108_1)
                 (try clear hfz113_0); (try clear hfz113_1)
                 (try clear hfz119_0); (try clear hfz119_1)
                 (try clear hfz124_0); (try clear hfz124_1)
                 (try clear hfz35_0); (try clear hfz35_1)
                 (try clear hfz35_2); (try clear hfz35_3)
                 (try clear hfz42_0); (try clear hfz42_1)
                 (try clear hfz45_0); (try clear hfz45_1)
                 (try clear hfz56_0); (try clear hfz56_1)
                 (try clear hfz61_0); (try clear hfz61_1)
                 (try clear hfz72_0); (try clear hfz72_1)
                 (try clear hfz78_0); (try clear hfz78_1)
                 (try clear hfz83_0); (try clear hfz83_1)
                 (try clear hfz94_0); (try clear hfz94_1)
                 (try clear hx272_0); (try clear hx279_0)
                 (try clear p2); (try clear p27)
                 (try clear p272); (try clear p279)
                 (try clear p6); (try clear p64)
                 (try clear q2); (try clear q27)
                 (try clear q272); (try clear q279)
                 obtain ⟨kq, x160_84, rfl, HA, HJ84, HO_35, HO_50, BK264, BK265, BK286, BK287, BK298, BK299, HB⟩ := hcut
                 cases kq with
                 | zero => exact absurd HA.out (by simp [posternlaw15_SpanNarrow.j3])
                 | succ kj84 =>
                  have H := HA.out
                  clear HA
                  simp only [posternlaw15_SpanNarrow.j3] at H
                  by_cases c125 : x160_84 = true
                  ·
                   subst c125
                   have H1 : (some false) = some r := by rw [if_pos rfl] at H; exact H
                   clear H; have H := H1; clear H1
                   exact absurd (H.trans (congrArg some hr_.out)) (by simp)
                  ·
                   replace c125 := Bool.eq_false_iff.mpr c125
                   subst c125
                   have H1 : (if t284 = true then (if t280 > t281 then (some false) else (if t282 > t283 then (some false) else ((posternref15_Lo.f a1_0 a1_1).bind fun t300 => (if t280 < t300 then (some false) else ((posternref15_Hi.f a1_0 a1_1).bind fun t301 => (if t281 > t301 then (some false) else ((posternref15_Lo.f a1_2 a1_3).bind fun t302 => (if t282 < t302 then (some false) else ((posternref15_Hi.f a1_2 a1_3).bind fun t303 => (if t283 > t303 then (some false) else (posternlaw15_SpanNarrow.l1 kj84 a0 t267 t268 (rdOf false y269 x37_1) t274 true y269 (y269.length : Int) x37_1 y276 (y276.length : Int) (wrap64 (x52_2 + 1)) a1_0 a1_1 a1_2 a1_3))))))))))) else (posternlaw15_SpanNarrow.l1 kj84 a0 t267 t268 (rdOf false y269 x37_1) t274 true y269 (y269.length : Int) x37_1 y276 (y276.length : Int) (wrap64 (x52_2 + 1)) a1_0 a1_1 a1_2 a1_3)) = some r := by rw [if_neg (show ¬ (false = true) by decide)] at H; exact H
                   clear H; have H := H1; clear H1
                   by_cases c126 : t284 = true
                   ·
                    subst c126
                    have H1 : (if t280 > t281 then (some false) else (if t282 > t283 then (some false) else ((posternref15_Lo.f a1_0 a1_1).bind fun t300 => (if t280 < t300 then (some false) else ((posternref15_Hi.f a1_0 a1_1).bind fun t301 => (if t281 > t301 then (some false) else ((posternref15_Lo.f a1_2 a1_3).bind fun t302 => (if t282 < t302 then (some false) else ((posternref15_Hi.f a1_2 a1_3).bind fun t303 => (if t283 > t303 then (some false) else (posternlaw15_SpanNarrow.l1 kj84 a0 t267 t268 (rdOf false y269 x37_1) t274 true y269 (y269.length : Int) x37_1 y276 (y276.length : Int) (wrap64 (x52_2 + 1)) a1_0 a1_1 a1_2 a1_3))))))))))) = some r := by rw [if_pos rfl] at H; exact H
                    clear H; have H := H1; clear H1
                    by_cases c127 : t280 > t281
                    ·
                     rw [if_pos c127] at H
                     have c127b0 : decide (t281 < t280) = true := decide_eq_true c127; clear c127
                     exact absurd (H.trans (congrArg some hr_.out)) (by simp)
                    ·
                     rw [if_neg c127] at H
                     have c127b0 : decide (t281 < t280) = false := decide_eq_false c127; clear c127
                     by_cases c128 : t282 > t283
                     ·
                      rw [if_pos c128] at H
                      have c128b0 : decide (t283 < t282) = true := decide_eq_true c128; clear c128
                      exact absurd (H.trans (congrArg some hr_.out)) (by simp)
                     ·
                      rw [if_neg c128] at H
                      have c128b0 : decide (t283 < t282) = false := decide_eq_false c128; clear c128; replace H := Option.bind_eq_some_iff.mp H; obtain ⟨t300, A1290, H⟩ := H
                      replace H : (if t280 < t300 then (some false) else ((posternref15_Hi.f a1_0 a1_1).bind fun t301 => (if t281 > t301 then (some false) else ((posternref15_Lo.f a1_2 a1_3).bind fun t302 => (if t282 < t302 then (some false) else ((posternref15_Hi.f a1_2 a1_3).bind fun t303 => (if t283 > t303 then (some false) else (posternlaw15_SpanNarrow.l1 kj84 a0 t267 t268 (rdOf false y269 x37_1) t274 true y269 (y269.length : Int) x37_1 y276 (y276.length : Int) (wrap64 (x52_2 + 1)) a1_0 a1_1 a1_2 a1_3)))))))) = some r := H
                      have A129 := Aside0.mk A1290; clear A1290
                      by_cases c130 : t280 < t300
                      ·
                       rw [if_pos c130] at H
                       have c130b0 : decide (t280 < t300) = true := decide_eq_true c130; clear c130
                       exact absurd (H.trans (congrArg some hr_.out)) (by simp)
                      ·
                       rw [if_neg c130] at H
                       have c130b0 : decide (t280 < t300) = false := decide_eq_false c130; clear c130; replace H := Option.bind_eq_some_iff.mp H; obtain ⟨t301, A1310, H⟩ := H
                       replace H : (if t281 > t301 then (some false) else ((posternref15_Lo.f a1_2 a1_3).bind fun t302 => (if t282 < t302 then (some false) else ((posternref15_Hi.f a1_2 a1_3).bind fun t303 => (if t283 > t303 then (some false) else (posternlaw15_SpanNarrow.l1 kj84 a0 t267 t268 (rdOf false y269 x37_1) t274 true y269 (y269.length : Int) x37_1 y276 (y276.length : Int) (wrap64 (x52_2 + 1)) a1_0 a1_1 a1_2 a1_3)))))) = some r := H
                       have A131 := Aside0.mk A1310; clear A1310
                       by_cases c132 : t281 > t301
                       ·
                        rw [if_pos c132] at H
                        have c132b0 : decide (t301 < t281) = true := decide_eq_true c132; clear c132
                        exact absurd (H.trans (congrArg some hr_.out)) (by simp)
                       ·
                        rw [if_neg c132] at H
                        have c132b0 : decide (t301 < t281) = false := decide_eq_false c132; clear c132; replace H := Option.bind_eq_some_iff.mp H; obtain ⟨t302, A1330, H⟩ := H
                        replace H : (if t282 < t302 then (some false) else ((posternref15_Hi.f a1_2 a1_3).bind fun t303 => (if t283 > t303 then (some false) else (posternlaw15_SpanNarrow.l1 kj84 a0 t267 t268 (rdOf false y269 x37_1) t274 true y269 (y269.length : Int) x37_1 y276 (y276.length : Int) (wrap64 (x52_2 + 1)) a1_0 a1_1 a1_2 a1_3)))) = some r := H
                        have A133 := Aside0.mk A1330; clear A1330
                        by_cases c134 : t282 < t302
                        ·
                         rw [if_pos c134] at H
                         have c134b0 : decide (t282 < t302) = true := decide_eq_true c134; clear c134
                         exact absurd (H.trans (congrArg some hr_.out)) (by simp)
                        ·
                         rw [if_neg c134] at H
                         have c134b0 : decide (t282 < t302) = false := decide_eq_false c134; clear c134; replace H := Option.bind_eq_some_iff.mp H; obtain ⟨t303, A1350, H⟩ := H
                         replace H : (if t283 > t303 then (some false) else (posternlaw15_SpanNarrow.l1 kj84 a0 t267 t268 (rdOf false y269 x37_1) t274 true y269 (y269.length : Int) x37_1 y276 (y276.length : Int) (wrap64 (x52_2 + 1)) a1_0 a1_1 a1_2 a1_3)) = some r := H
                         have A135 := Aside0.mk A1350; clear A1350
                         by_cases c136 : t283 > t303
                         ·
                          rw [if_pos c136] at H
                          have c136b0 : decide (t303 < t283) = true := decide_eq_true c136; clear c136
                          exact absurd (H.trans (congrArg some hr_.out)) (by simp)
                         ·
                          rw [if_neg c136] at H
                          have c136b0 : decide (t303 < t283) = false := decide_eq_false c136; clear c136; have H' := Aside0.mk H; clear H
                          try go_wp2
                          have n0_ := Aside0.mk (Kd.R_drew HO_35.out)
                          have n1_ := Aside0.mk (Kd.R_drew HO_50.out)
                          have n2_ := Aside0.mk (blk_drew BK264.out); have n3_ := Aside0.mk (blk_drew BK265.out); have n4_ := Aside0.mk (blk_drew BK286.out); have n5_ := Aside0.mk (blk_drew BK287.out); have n6_ := Aside0.mk (blk_drew BK298.out); have n7_ := Aside0.mk (blk_drew BK299.out)
                          have n8_ := Aside0.mk (below_drew1 HB.out)
                          clear HO_35; clear HO_50; clear BK264; clear BK265; clear BK286; clear BK287; clear BK298; clear BK299; clear HB
                          have HO_35 := n0_
                          have HO_50 := n1_
                          have BK264 := n2_; have BK265 := n3_; have BK286 := n4_; have BK287 := n5_; have BK298 := n6_; have BK299 := n7_; have HB := n8_; clear n0_ n1_ n2_ n3_ n4_ n5_ n6_ n7_ n8_
                          refine start_ (n := 47) (S := fun w' => w'.cell? ⟨gb286, 0, none⟩ = some (.int .u64 t280) ∧ w'.cell? ⟨gb286, 1, none⟩ = some (.int .u64 t281) ∧ w'.cell? ⟨gb287, 0, none⟩ = some (.int .u64 t282) ∧ w'.cell? ⟨gb287, 1, none⟩ = some (.int .u64 t283) ∧ w'.cell? ⟨gb264, 0, none⟩ = some (.int .u64 a1_0) ∧ w'.cell? ⟨gb264, 1, none⟩ = some (.int .u64 a1_1) ∧ w'.cell? ⟨gb264, 2, none⟩ = some (.int .u64 a1_2) ∧ w'.cell? ⟨gb264, 3, none⟩ = some (.int .u64 a1_3)) (ds := []) #[z,z,z,z,z,z,z,z,z,z,z,z,z,z,z,z,z,z,z,z,z,z,z,z,z,z,z,z,z,z,z,z,z,z,z,z,z,z,z,z,z,z,z,z,z,z,z] (by kernel_rfl) rfl rfl ⟨(blk_cell BK286.out 0).trans rfl, (blk_cell BK286.out 1).trans rfl, (blk_cell BK287.out 0).trans rfl, (blk_cell BK287.out 1).trans rfl, (blk_cell BK264.out 0).trans rfl, (blk_cell BK264.out 1).trans rfl, (blk_cell BK264.out 2).trans rfl, (blk_cell BK264.out 3).trans rfl⟩ (fun hHeld => ?_); refine with_tabW posternlaw15_SpanNarrow.tab20 posternlaw15_SpanNarrow.bits20 (fun HT_ HW_ => ?_)
                          generalize wc.drew = w137 at HO_35 HO_50 BK264 BK265 BK286 BK287 BK298 BK299 HB hHeld ⊢
                          refine pure_ (i := 0) (N := some 161) (v := ?_) (a' := ?_) #[y,z,z,z,z,z,z,z,z,z,z,z,z,z,z,z,z,z,z,z,z,z,z,z,z,z,z,z,z,z,z,z,z,z,z,z,z,z,z,z,z,z,z,z,z,z,z] rfl rfl (any_of HT_.out (by kernel_rfl)) (fun _ _ _ h => h) (Or.inl ⟨by rfl, ?_⟩) ?_ ?_; rotate_left
                          · intro w'; go_simp; with_reducible rfl
                          rotate_left
                          · simp only [Act.put, qT, q0, q1, i64_w, i32_w]; rfl
                          refine pure_ (i := 1) (N := some 162) (v := ?_) (a' := ?_) #[y,y,z,z,z,z,z,z,z,z,z,z,z,z,z,z,z,z,z,z,z,z,z,z,z,z,z,z,z,z,z,z,z,z,z,z,z,z,z,z,z,z,z,z,z,z,z] rfl rfl (any_of HT_.out (by kernel_rfl)) (fun _ _ _ h => h) (Or.inl ⟨by rfl, ?_⟩) ?_ ?_; rotate_left
                          · intro w'; go_simp; with_reducible rfl
                          rotate_left
                          · simp only [Act.put, qT, q0, q1, i64_w, i32_w]; rfl
                          refine pure_ (i := 2) (N := some 163) (v := ?_) (a' := ?_) #[y,y,y,z,z,z,z,z,z,z,z,z,z,z,z,z,z,z,z,z,z,z,z,z,z,z,z,z,z,z,z,z,z,z,z,z,z,z,z,z,z,z,z,z,z,z,z] rfl rfl (any_of HT_.out (by kernel_rfl)) (fun _ _ _ h => h) (Or.inl ⟨by rfl, ?_⟩) ?_ ?_; rotate_left
                          · intro w'; go_simp; with_reducible rfl
                          rotate_left
                          · simp only [Act.put, qT, q0, q1, i64_w, i32_w]; rfl
                          refine pure_ (i := 4) (N := some 165) (v := ?_) (a' := ?_) #[y,y,y,z,y,z,z,z,z,z,z,z,z,z,z,z,z,z,z,z,z,z,z,z,z,z,z,z,z,z,z,z,z,z,z,z,z,z,z,z,z,z,z,z,z,z,z] rfl rfl (any_of HT_.out (by kernel_rfl)) (fun _ _ _ h => h) (Or.inl ⟨by rfl, ?_⟩) ?_ ?_; rotate_left
                          · intro w'; go_simp; with_reducible rfl
                          rotate_left
                          · simp only [Act.put, qT, q0, q1, i64_w, i32_w]; rfl
                          refine take_ (i := 3) (N := some 164) (v := ?_) (a' := ?_) #[y,y,y,y,y,z,z,z,z,z,z,z,z,z,z,z,z,z,z,z,z,z,z,z,z,z,z,z,z,z,z,z,z,z,z,z,z,z,z,z,z,z,z,z,z,z,z] rfl rfl (take_ofW HT_.out HW_.out (by kernel_rfl)) (fun _ _ _ h => h) (Or.inl ⟨by rfl, ?_⟩) hHeld ?_ ?_; rotate_left
                          ·
                           rintro w' ⟨s0, s1, s2, s3, s4, s5, s6, s7⟩
                           go_simp; with_reducible rfl
                          rotate_left
                          · simp only [Act.put, qT, q0, q1, i64_w, i32_w]; rfl
                          refine take_ (i := 5) (N := some 166) (v := ?_) (a' := ?_) #[y,y,y,y,y,y,z,z,z,z,z,z,z,z,z,z,z,z,z,z,z,z,z,z,z,z,z,z,z,z,z,z,z,z,z,z,z,z,z,z,z,z,z,z,z,z,z] rfl rfl (take_ofW HT_.out HW_.out (by kernel_rfl)) (fun _ _ _ h => h) (Or.inl ⟨by rfl, ?_⟩) hHeld ?_ ?_; rotate_left
                          ·
                           rintro w' ⟨s0, s1, s2, s3, s4, s5, s6, s7⟩
                           go_simp; with_reducible rfl
                          rotate_left
                          · simp only [Act.put, qT, q0, q1, i64_w, i32_w]; rfl
                          refine pure_ (i := 6) (N := some 167) (v := ?_) (a' := ?_) #[y,y,y,y,y,y,y,z,z,z,z,z,z,z,z,z,z,z,z,z,z,z,z,z,z,z,z,z,z,z,z,z,z,z,z,z,z,z,z,z,z,z,z,z,z,z,z] rfl rfl (any_of HT_.out (by kernel_rfl)) (fun _ _ _ h => h) (Or.inl ⟨by rfl, ?_⟩) ?_ ?_; rotate_left
                          · intro w'; go_simp; with_reducible rfl
                          rotate_left
                          · simp only [Act.put, qT, q0, q1, i64_w, i32_w]; rfl
                          refine pure_ (i := 7) (N := some 168) (v := ?_) (a' := ?_) #[y,y,y,y,y,y,y,y,z,z,z,z,z,z,z,z,z,z,z,z,z,z,z,z,z,z,z,z,z,z,z,z,z,z,z,z,z,z,z,z,z,z,z,z,z,z,z] rfl rfl (any_of HT_.out (by kernel_rfl)) (fun _ _ _ h => h) (Or.inl ⟨by rfl, ?_⟩) ?_ ?_; rotate_left
                          · intro w'; go_simp; with_reducible rfl
                          rotate_left
                          · simp only [Act.put, qT, q0, q1, i64_w, i32_w]; rfl
                          refine pure_ (i := 8) (N := some 169) (v := ?_) (a' := ?_) #[y,y,y,y,y,y,y,y,y,z,z,z,z,z,z,z,z,z,z,z,z,z,z,z,z,z,z,z,z,z,z,z,z,z,z,z,z,z,z,z,z,z,z,z,z,z,z] rfl rfl (any_of HT_.out (by kernel_rfl)) (fun _ _ _ h => h) (Or.inl ⟨by rfl, ?_⟩) ?_ ?_; rotate_left
                          · intro w'; go_simp; with_reducible rfl
                          rotate_left
                          · simp only [Act.put, qT, q0, q1, i64_w, i32_w]; rfl
                          refine pure_ (i := 10) (N := some 171) (v := ?_) (a' := ?_) #[y,y,y,y,y,y,y,y,y,z,y,z,z,z,z,z,z,z,z,z,z,z,z,z,z,z,z,z,z,z,z,z,z,z,z,z,z,z,z,z,z,z,z,z,z,z,z] rfl rfl (any_of HT_.out (by kernel_rfl)) (fun _ _ _ h => h) (Or.inl ⟨by rfl, ?_⟩) ?_ ?_; rotate_left
                          · intro w'; go_simp; with_reducible rfl
                          rotate_left
                          · simp only [Act.put, qT, q0, q1, i64_w, i32_w]; rfl
                          refine take_ (i := 9) (N := some 170) (v := ?_) (a' := ?_) #[y,y,y,y,y,y,y,y,y,y,y,z,z,z,z,z,z,z,z,z,z,z,z,z,z,z,z,z,z,z,z,z,z,z,z,z,z,z,z,z,z,z,z,z,z,z,z] rfl rfl (take_ofW HT_.out HW_.out (by kernel_rfl)) (fun _ _ _ h => h) (Or.inl ⟨by rfl, ?_⟩) hHeld ?_ ?_; rotate_left
                          ·
                           rintro w' ⟨s0, s1, s2, s3, s4, s5, s6, s7⟩
                           go_simp; with_reducible rfl
                          rotate_left
                          · simp only [Act.put, qT, q0, q1, i64_w, i32_w]; rfl
                          refine take_ (i := 11) (N := some 172) (v := ?_) (a' := ?_) #[y,y,y,y,y,y,y,y,y,y,y,y,z,z,z,z,z,z,z,z,z,z,z,z,z,z,z,z,z,z,z,z,z,z,z,z,z,z,z,z,z,z,z,z,z,z,z] rfl rfl (take_ofW HT_.out HW_.out (by kernel_rfl)) (fun _ _ _ h => h) (Or.inl ⟨by rfl, ?_⟩) hHeld ?_ ?_; rotate_left
                          ·
                           rintro w' ⟨s0, s1, s2, s3, s4, s5, s6, s7⟩
                           go_simp; with_reducible rfl
                          rotate_left
                          · simp only [Act.put, qT, q0, q1, i64_w, i32_w]; rfl
                          refine pure_ (i := 12) (N := some 173) (v := ?_) (a' := ?_) #[y,y,y,y,y,y,y,y,y,y,y,y,y,z,z,z,z,z,z,z,z,z,z,z,z,z,z,z,z,z,z,z,z,z,z,z,z,z,z,z,z,z,z,z,z,z,z] rfl rfl (any_of HT_.out (by kernel_rfl)) (fun _ _ _ h => h) (Or.inl ⟨by rfl, ?_⟩) ?_ ?_; rotate_left
                          · intro w'; go_simp; with_reducible rfl
                          rotate_left
                          · simp only [Act.put, qT, q0, q1, i64_w, i32_w]; rfl
                          refine pure_ (i := 13) (N := some 174) (v := ?_) (a' := ?_) #[y,y,y,y,y,y,y,y,y,y,y,y,y,y,z,z,z,z,z,z,z,z,z,z,z,z,z,z,z,z,z,z,z,z,z,z,z,z,z,z,z,z,z,z,z,z,z] rfl rfl (any_of HT_.out (by kernel_rfl)) (fun _ _ _ h => h) (Or.inl ⟨by rfl, ?_⟩) ?_ ?_; rotate_left
                          · intro w'; go_simp; with_reducible rfl
                          rotate_left
                          · simp only [Act.put, qT, q0, q1, i64_w, i32_w]; rfl
                          refine pure_ (i := 14) (N := some 175) (v := ?_) (a' := ?_) #[y,y,y,y,y,y,y,y,y,y,y,y,y,y,y,z,z,z,z,z,z,z,z,z,z,z,z,z,z,z,z,z,z,z,z,z,z,z,z,z,z,z,z,z,z,z,z] rfl rfl (any_of HT_.out (by kernel_rfl)) (fun _ _ _ h => h) (Or.inl ⟨by rfl, ?_⟩) ?_ ?_; rotate_left
                          · intro w'; go_simp; with_reducible rfl
                          rotate_left
                          · simp only [Act.put, qT, q0, q1, i64_w, i32_w]; rfl
                          refine pure_ (i := 15) (N := some 176) (v := ?_) (a' := ?_) #[y,y,y,y,y,y,y,y,y,y,y,y,y,y,y,y,z,z,z,z,z,z,z,z,z,z,z,z,z,z,z,z,z,z,z,z,z,z,z,z,z,z,z,z,z,z,z] rfl rfl (any_of HT_.out (by kernel_rfl)) (fun _ _ _ h => h) (Or.inl ⟨by rfl, ?_⟩) ?_ ?_; rotate_left
                          · intro w'; go_simp; with_reducible rfl
                          rotate_left
                          · simp only [Act.put, qT, q0, q1, i64_w, i32_w]; rfl
                          refine pure_ (i := 17) (N := some 178) (v := ?_) (a' := ?_) #[y,y,y,y,y,y,y,y,y,y,y,y,y,y,y,y,z,y,z,z,z,z,z,z,z,z,z,z,z,z,z,z,z,z,z,z,z,z,z,z,z,z,z,z,z,z,z] rfl rfl (any_of HT_.out (by kernel_rfl)) (fun _ _ _ h => h) (Or.inl ⟨by rfl, ?_⟩) ?_ ?_; rotate_left
                          · intro w'; go_simp; with_reducible rfl
                          rotate_left
                          · simp only [Act.put, qT, q0, q1, i64_w, i32_w]; rfl
                          refine take_ (i := 16) (N := some 177) (v := ?_) (a' := ?_) #[y,y,y,y,y,y,y,y,y,y,y,y,y,y,y,y,y,y,z,z,z,z,z,z,z,z,z,z,z,z,z,z,z,z,z,z,z,z,z,z,z,z,z,z,z,z,z] rfl rfl (take_ofW HT_.out HW_.out (by kernel_rfl)) (fun _ _ _ h => h) (Or.inl ⟨by rfl, ?_⟩) hHeld ?_ ?_; rotate_left
                          ·
                           rintro w' ⟨s0, s1, s2, s3, s4, s5, s6, s7⟩
                           go_simp; with_reducible rfl
                          rotate_left
                          · simp only [Act.put, qT, q0, q1, i64_w, i32_w]; rfl
                          refine take_ (i := 18) (N := some 179) (v := ?_) (a' := ?_) #[y,y,y,y,y,y,y,y,y,y,y,y,y,y,y,y,y,y,y,z,z,z,z,z,z,z,z,z,z,z,z,z,z,z,z,z,z,z,z,z,z,z,z,z,z,z,z] rfl rfl (take_ofW HT_.out HW_.out (by kernel_rfl)) (fun _ _ _ h => h) (Or.inl ⟨by rfl, ?_⟩) hHeld ?_ ?_; rotate_left
                          ·
                           rintro w' ⟨s0, s1, s2, s3, s4, s5, s6, s7⟩
                           go_simp; with_reducible rfl
                          rotate_left
                          · simp only [Act.put, qT, q0, q1, i64_w, i32_w]; rfl
                          refine one_ (i := 19) (N := some 180) #[y,y,y,y,y,y,y,y,y,y,y,y,y,y,y,y,y,y,y,y,z,z,z,z,z,z,z,z,z,z,z,z,z,z,z,z,z,z,z,z,z,z,z,z,z,z,z] rfl rfl (one_of HT_.out (by kernel_rfl)) (by decide) (fun K hK => ?_)
                          refine goes_ Try.func30 (by kernel_rfl) rfl #[.agg #[.int .u64 a1_0, .int .u64 a1_1]] (by rfl) rfl rfl (by (try simp only [List.map_toArray, List.map_cons, List.map_nil]); first | done | rfl | (simp only [List.length_drop, List.length_take]; rfl)) ?_
                          with_reducible refine (posternref15_Lo.calls a1_0 a1_1 t300 _ A129.out).mono ?_
                          rintro e w138 ⟨rfl, hb⟩; refine ⟨_, rfl, ?_⟩
                          have n0_ := Aside0.mk (Kd.R_below (by (with_reducible repeat (first | apply Kd.R_alloc | apply Kd.R_drewN | apply Kd.R_drew)); exact HO_35.out) hb)
                          have n1_ := Aside0.mk (Kd.R_below (by (with_reducible repeat (first | apply Kd.R_alloc | apply Kd.R_drewN | apply Kd.R_drew)); exact HO_50.out) hb)
                          have n2_ := Aside0.mk (blk_below (g := gb264) (o := .cells #[.int .u64 a1_0, .int .u64 a1_1, .int .u64 a1_2, .int .u64 a1_3] 63 (0, 0)) (by (with_reducible repeat (first | apply bN | apply bD | apply bA)); exact BK264.out) hb)
                          have n3_ := Aside0.mk (blk_below (g := gb265) (o := .cells #[.int .u64 a2_0, .int .u64 a2_1] 26 (0, 0)) (by (with_reducible repeat (first | apply bN | apply bD | apply bA)); exact BK265.out) hb)
                          have n4_ := Aside0.mk (blk_below (g := gb286) (o := .cells #[.int .u64 t280, .int .u64 t281] 58 (0, 0)) (by (with_reducible repeat (first | apply bN | apply bD | apply bA)); exact BK286.out) hb)
                          have n5_ := Aside0.mk (blk_below (g := gb287) (o := .cells #[.int .u64 t282, .int .u64 t283] 58 (0, 0)) (by (with_reducible repeat (first | apply bN | apply bD | apply bA)); exact BK287.out) hb)
                          have n6_ := Aside0.mk (blk_below (g := gb298) (o := .cells #[.int .u64 t292, .int .u64 t293] 58 (0, 0)) (by (with_reducible repeat (first | apply bN | apply bD | apply bA)); exact BK298.out) hb)
                          have n7_ := Aside0.mk (blk_below (g := gb299) (o := .cells #[.int .u64 t294, .int .u64 t295] 58 (0, 0)) (by (with_reducible repeat (first | apply bN | apply bD | apply bA)); exact BK299.out) hb)
                          have n8_ := Aside0.mk (below_step (by repeat (first | (with_reducible first | exact HB.out | apply lA | apply lN | apply lD | refine lS ?_ ‹_›) | exact HB.out)) hb)
                          clear HO_35; clear HO_50; clear BK264; clear BK265; clear BK286; clear BK287; clear BK298; clear BK299; clear HB
                          have HO_35 := n0_
                          have HO_50 := n1_
                          have BK264 := n2_; have BK265 := n3_; have BK286 := n4_; have BK287 := n5_; have BK298 := n6_; have BK299 := n7_; have HB := n8_; clear n0_ n1_ n2_ n3_ n4_ n5_ n6_ n7_ n8_; (try clear hb); (try clear hb2); (try clear hk); (try clear hi)
                          refine hK.out _ _ ⟨(blk_cell BK286.out 0).trans rfl, (blk_cell BK286.out 1).trans rfl, (blk_cell BK287.out 0).trans rfl, (blk_cell BK287.out 1).trans rfl, (blk_cell BK264.out 0).trans rfl, (blk_cell BK264.out 1).trans rfl, (blk_cell BK264.out 2).trans rfl, (blk_cell BK264.out 3).trans rfl⟩ (fun hHeld => ?_)
                          clear hK K
                          refine norm_ (a' := ?_) ?_ ?_; rotate_left
                          ·
                           show Act.put _ (some 180) _ = _
                           simp only [Act.put, qT, q0, q1, i64_w, i32_w]; rfl
                          refine pure_ (i := 20) (N := some 181) (v := ?_) (a' := ?_) #[y,y,y,y,y,y,y,y,y,y,y,y,y,y,y,y,y,y,y,y,y,z,z,z,z,z,z,z,z,z,z,z,z,z,z,z,z,z,z,z,z,z,z,z,z,z,z] rfl rfl (any_of HT_.out (by kernel_rfl)) (fun _ _ _ h => h) (Or.inl ⟨by rfl, ?_⟩) ?_ ?_; rotate_left
                          · intro w'; go_simp; with_reducible rfl
                          rotate_left
                          · simp only [Act.put, qT, q0, q1, i64_w, i32_w]; rfl
                          refine pure_ (i := 21) (N := some 182) (v := ?_) (a' := ?_) #[y,y,y,y,y,y,y,y,y,y,y,y,y,y,y,y,y,y,y,y,y,y,z,z,z,z,z,z,z,z,z,z,z,z,z,z,z,z,z,z,z,z,z,z,z,z,z] rfl rfl (any_of HT_.out (by kernel_rfl)) (fun _ _ _ h => h) (Or.inl ⟨by rfl, ?_⟩) ?_ ?_; rotate_left
                          · intro w'; go_simp; with_reducible rfl
                          rotate_left
                          · simp only [Act.put, qT, q0, q1, i64_w, i32_w]; rfl
                          refine pure_ (i := 22) (N := some 183) (v := ?_) (a' := ?_) #[y,y,y,y,y,y,y,y,y,y,y,y,y,y,y,y,y,y,y,y,y,y,y,z,z,z,z,z,z,z,z,z,z,z,z,z,z,z,z,z,z,z,z,z,z,z,z] rfl rfl (any_of HT_.out (by kernel_rfl)) (fun _ _ _ h => h) (Or.inl ⟨by rfl, ?_⟩) ?_ ?_; rotate_left
                          · intro w'; go_simp; with_reducible rfl
                          rotate_left
                          · simp only [Act.put, qT, q0, q1, i64_w, i32_w]; rfl
                          refine pure_ (i := 23) (N := some 184) (v := ?_) (a' := ?_) #[y,y,y,y,y,y,y,y,y,y,y,y,y,y,y,y,y,y,y,y,y,y,y,y,z,z,z,z,z,z,z,z,z,z,z,z,z,z,z,z,z,z,z,z,z,z,z] rfl rfl (any_of HT_.out (by kernel_rfl)) (fun _ _ _ h => h) (Or.inl ⟨by rfl, ?_⟩) ?_ ?_; rotate_left
                          · intro w'; go_simp; with_reducible rfl
                          rotate_left
                          · simp only [Act.put, qT, q0, q1, i64_w, i32_w]; rfl
                          refine pure_ (i := 25) (N := some 186) (v := ?_) (a' := ?_) #[y,y,y,y,y,y,y,y,y,y,y,y,y,y,y,y,y,y,y,y,y,y,y,y,z,y,z,z,z,z,z,z,z,z,z,z,z,z,z,z,z,z,z,z,z,z,z] rfl rfl (any_of HT_.out (by kernel_rfl)) (fun _ _ _ h => h) (Or.inl ⟨by rfl, ?_⟩) ?_ ?_; rotate_left
                          · intro w'; go_simp; with_reducible rfl
                          rotate_left
                          · simp only [Act.put, qT, q0, q1, i64_w, i32_w]; rfl
                          refine take_ (i := 24) (N := some 185) (v := ?_) (a' := ?_) #[y,y,y,y,y,y,y,y,y,y,y,y,y,y,y,y,y,y,y,y,y,y,y,y,y,y,z,z,z,z,z,z,z,z,z,z,z,z,z,z,z,z,z,z,z,z,z] rfl rfl (take_ofW HT_.out HW_.out (by kernel_rfl)) (fun _ _ _ h => h) (Or.inl ⟨by rfl, ?_⟩) hHeld ?_ ?_; rotate_left
                          ·
                           rintro w' ⟨s0, s1, s2, s3, s4, s5, s6, s7⟩
                           go_simp; with_reducible rfl
                          rotate_left
                          · simp only [Act.put, qT, q0, q1, i64_w, i32_w]; rfl
                          refine take_ (i := 26) (N := some 187) (v := ?_) (a' := ?_) #[y,y,y,y,y,y,y,y,y,y,y,y,y,y,y,y,y,y,y,y,y,y,y,y,y,y,y,z,z,z,z,z,z,z,z,z,z,z,z,z,z,z,z,z,z,z,z] rfl rfl (take_ofW HT_.out HW_.out (by kernel_rfl)) (fun _ _ _ h => h) (Or.inl ⟨by rfl, ?_⟩) hHeld ?_ ?_; rotate_left
                          ·
                           rintro w' ⟨s0, s1, s2, s3, s4, s5, s6, s7⟩
                           go_simp; with_reducible rfl
                          rotate_left
                          · simp only [Act.put, qT, q0, q1, i64_w, i32_w]; rfl
                          refine one_ (i := 27) (N := some 188) #[y,y,y,y,y,y,y,y,y,y,y,y,y,y,y,y,y,y,y,y,y,y,y,y,y,y,y,y,z,z,z,z,z,z,z,z,z,z,z,z,z,z,z,z,z,z,z] rfl rfl (one_of HT_.out (by kernel_rfl)) (by decide) (fun K hK => ?_)
                          refine goes_ Try.func31 (by kernel_rfl) rfl #[.agg #[.int .u64 a1_0, .int .u64 a1_1]] (by rfl) rfl rfl (by (try simp only [List.map_toArray, List.map_cons, List.map_nil]); first | done | rfl | (simp only [List.length_drop, List.length_take]; rfl)) ?_
                          with_reducible refine (posternref15_Hi.calls a1_0 a1_1 t301 _ A131.out).mono ?_
                          rintro e w139 ⟨rfl, hb⟩; refine ⟨_, rfl, ?_⟩
                          have n0_ := Aside0.mk (Kd.R_below (by (with_reducible repeat (first | apply Kd.R_alloc | apply Kd.R_drewN | apply Kd.R_drew)); exact HO_35.out) hb)
                          have n1_ := Aside0.mk (Kd.R_below (by (with_reducible repeat (first | apply Kd.R_alloc | apply Kd.R_drewN | apply Kd.R_drew)); exact HO_50.out) hb)
                          have n2_ := Aside0.mk (blk_below (g := gb264) (o := .cells #[.int .u64 a1_0, .int .u64 a1_1, .int .u64 a1_2, .int .u64 a1_3] 63 (0, 0)) (by (with_reducible repeat (first | apply bN | apply bD | apply bA)); exact BK264.out) hb)
                          have n3_ := Aside0.mk (blk_below (g := gb265) (o := .cells #[.int .u64 a2_0, .int .u64 a2_1] 26 (0, 0)) (by (with_reducible repeat (first | apply bN | apply bD | apply bA)); exact BK265.out) hb)
                          have n4_ := Aside0.mk (blk_below (g := gb286) (o := .cells #[.int .u64 t280, .int .u64 t281] 58 (0, 0)) (by (with_reducible repeat (first | apply bN | apply bD | apply bA)); exact BK286.out) hb)
                          have n5_ := Aside0.mk (blk_below (g := gb287) (o := .cells #[.int .u64 t282, .int .u64 t283] 58 (0, 0)) (by (with_reducible repeat (first | apply bN | apply bD | apply bA)); exact BK287.out) hb)
                          have n6_ := Aside0.mk (blk_below (g := gb298) (o := .cells #[.int .u64 t292, .int .u64 t293] 58 (0, 0)) (by (with_reducible repeat (first | apply bN | apply bD | apply bA)); exact BK298.out) hb)
                          have n7_ := Aside0.mk (blk_below (g := gb299) (o := .cells #[.int .u64 t294, .int .u64 t295] 58 (0, 0)) (by (with_reducible repeat (first | apply bN | apply bD | apply bA)); exact BK299.out) hb)
                          have n8_ := Aside0.mk (below_step (by repeat (first | (with_reducible first | exact HB.out | apply lA | apply lN | apply lD | refine lS ?_ ‹_›) | exact HB.out)) hb)
                          clear HO_35; clear HO_50; clear BK264; clear BK265; clear BK286; clear BK287; clear BK298; clear BK299; clear HB
                          have HO_35 := n0_
                          have HO_50 := n1_
                          have BK264 := n2_; have BK265 := n3_; have BK286 := n4_; have BK287 := n5_; have BK298 := n6_; have BK299 := n7_; have HB := n8_; clear n0_ n1_ n2_ n3_ n4_ n5_ n6_ n7_ n8_; (try clear hb); (try clear hb2); (try clear hk); (try clear hi)
                          refine hK.out _ _ ⟨(blk_cell BK286.out 0).trans rfl, (blk_cell BK286.out 1).trans rfl, (blk_cell BK287.out 0).trans rfl, (blk_cell BK287.out 1).trans rfl, (blk_cell BK264.out 0).trans rfl, (blk_cell BK264.out 1).trans rfl, (blk_cell BK264.out 2).trans rfl, (blk_cell BK264.out 3).trans rfl⟩ (fun hHeld => ?_)
                          clear hK K
                          refine norm_ (a' := ?_) ?_ ?_; rotate_left
                          ·
                           show Act.put _ (some 188) _ = _
                           simp only [Act.put, qT, q0, q1, i64_w, i32_w]; rfl
                          refine pure_ (i := 28) (N := some 189) (v := ?_) (a' := ?_) #[y,y,y,y,y,y,y,y,y,y,y,y,y,y,y,y,y,y,y,y,y,y,y,y,y,y,y,y,y,z,z,z,z,z,z,z,z,z,z,z,z,z,z,z,z,z,z] rfl rfl (any_of HT_.out (by kernel_rfl)) (fun _ _ _ h => h) (Or.inl ⟨by rfl, ?_⟩) ?_ ?_; rotate_left
                          · intro w'; go_simp; with_reducible rfl
                          rotate_left
                          · simp only [Act.put, qT, q0, q1, i64_w, i32_w]; rfl
                          refine pure_ (i := 29) (N := some 190) (v := ?_) (a' := ?_) #[y,y,y,y,y,y,y,y,y,y,y,y,y,y,y,y,y,y,y,y,y,y,y,y,y,y,y,y,y,y,z,z,z,z,z,z,z,z,z,z,z,z,z,z,z,z,z] rfl rfl (any_of HT_.out (by kernel_rfl)) (fun _ _ _ h => h) (Or.inl ⟨by rfl, ?_⟩) ?_ ?_; rotate_left
                          · intro w'; go_simp; with_reducible rfl
                          rotate_left
                          · simp only [Act.put, qT, q0, q1, i64_w, i32_w]; rfl
                          refine pure_ (i := 30) (N := some 191) (v := ?_) (a' := ?_) #[y,y,y,y,y,y,y,y,y,y,y,y,y,y,y,y,y,y,y,y,y,y,y,y,y,y,y,y,y,y,y,z,z,z,z,z,z,z,z,z,z,z,z,z,z,z,z] rfl rfl (any_of HT_.out (by kernel_rfl)) (fun _ _ _ h => h) (Or.inl ⟨by rfl, ?_⟩) ?_ ?_; rotate_left
                          · intro w'; go_simp; with_reducible rfl
                          rotate_left
                          · simp only [Act.put, qT, q0, q1, i64_w, i32_w]; rfl
                          refine pure_ (i := 31) (N := some 192) (v := ?_) (a' := ?_) #[y,y,y,y,y,y,y,y,y,y,y,y,y,y,y,y,y,y,y,y,y,y,y,y,y,y,y,y,y,y,y,y,z,z,z,z,z,z,z,z,z,z,z,z,z,z,z] rfl rfl (any_of HT_.out (by kernel_rfl)) (fun _ _ _ h => h) (Or.inl ⟨by rfl, ?_⟩) ?_ ?_; rotate_left
                          · intro w'; go_simp; with_reducible rfl
                          rotate_left
                          · simp only [Act.put, qT, q0, q1, i64_w, i32_w]; rfl
                          refine pure_ (i := 33) (N := some 194) (v := ?_) (a' := ?_) #[y,y,y,y,y,y,y,y,y,y,y,y,y,y,y,y,y,y,y,y,y,y,y,y,y,y,y,y,y,y,y,y,z,y,z,z,z,z,z,z,z,z,z,z,z,z,z] rfl rfl (any_of HT_.out (by kernel_rfl)) (fun _ _ _ h => h) (Or.inl ⟨by rfl, ?_⟩) ?_ ?_; rotate_left
                          · intro w'; go_simp; with_reducible rfl
                          rotate_left
                          · simp only [Act.put, qT, q0, q1, i64_w, i32_w]; rfl
                          refine take_ (i := 32) (N := some 193) (v := ?_) (a' := ?_) #[y,y,y,y,y,y,y,y,y,y,y,y,y,y,y,y,y,y,y,y,y,y,y,y,y,y,y,y,y,y,y,y,y,y,z,z,z,z,z,z,z,z,z,z,z,z,z] rfl rfl (take_ofW HT_.out HW_.out (by kernel_rfl)) (fun _ _ _ h => h) (Or.inl ⟨by rfl, ?_⟩) hHeld ?_ ?_; rotate_left
                          ·
                           rintro w' ⟨s0, s1, s2, s3, s4, s5, s6, s7⟩
                           go_simp; with_reducible rfl
                          rotate_left
                          · simp only [Act.put, qT, q0, q1, i64_w, i32_w]; rfl
                          refine take_ (i := 34) (N := some 195) (v := ?_) (a' := ?_) #[y,y,y,y,y,y,y,y,y,y,y,y,y,y,y,y,y,y,y,y,y,y,y,y,y,y,y,y,y,y,y,y,y,y,y,z,z,z,z,z,z,z,z,z,z,z,z] rfl rfl (take_ofW HT_.out HW_.out (by kernel_rfl)) (fun _ _ _ h => h) (Or.inl ⟨by rfl, ?_⟩) hHeld ?_ ?_; rotate_left
                          ·
                           rintro w' ⟨s0, s1, s2, s3, s4, s5, s6, s7⟩
                           go_simp; with_reducible rfl
                          rotate_left
                          · simp only [Act.put, qT, q0, q1, i64_w, i32_w]; rfl
                          refine one_ (i := 35) (N := some 196) #[y,y,y,y,y,y,y,y,y,y,y,y,y,y,y,y,y,y,y,y,y,y,y,y,y,y,y,y,y,y,y,y,y,y,y,y,z,z,z,z,z,z,z,z,z,z,z] rfl rfl (one_of HT_.out (by kernel_rfl)) (by decide) (fun K hK => ?_)
                          refine goes_ Try.func30 (by kernel_rfl) rfl #[.agg #[.int .u64 a1_2, .int .u64 a1_3]] (by rfl) rfl rfl (by (try simp only [List.map_toArray, List.map_cons, List.map_nil]); first | done | rfl | (simp only [List.length_drop, List.length_take]; rfl)) ?_
                          with_reducible refine (posternref15_Lo.calls a1_2 a1_3 t302 _ A133.out).mono ?_
                          rintro e w140 ⟨rfl, hb⟩; refine ⟨_, rfl, ?_⟩
                          have n0_ := Aside0.mk (Kd.R_below (by (with_reducible repeat (first | apply Kd.R_alloc | apply Kd.R_drewN | apply Kd.R_drew)); exact HO_35.out) hb)
                          have n1_ := Aside0.mk (Kd.R_below (by (with_reducible repeat (first | apply Kd.R_alloc | apply Kd.R_drewN | apply Kd.R_drew)); exact HO_50.out) hb)
                          have n2_ := Aside0.mk (blk_below (g := gb264) (o := .cells #[.int .u64 a1_0, .int .u64 a1_1, .int .u64 a1_2, .int .u64 a1_3] 63 (0, 0)) (by (with_reducible repeat (first | apply bN | apply bD | apply bA)); exact BK264.out) hb)
                          have n3_ := Aside0.mk (blk_below (g := gb265) (o := .cells #[.int .u64 a2_0, .int .u64 a2_1] 26 (0, 0)) (by (with_reducible repeat (first | apply bN | apply bD | apply bA)); exact BK265.out) hb)
                          have n4_ := Aside0.mk (blk_below (g := gb286) (o := .cells #[.int .u64 t280, .int .u64 t281] 58 (0, 0)) (by (with_reducible repeat (first | apply bN | apply bD | apply bA)); exact BK286.out) hb)
                          have n5_ := Aside0.mk (blk_below (g := gb287) (o := .cells #[.int .u64 t282, .int .u64 t283] 58 (0, 0)) (by (with_reducible repeat (first | apply bN | apply bD | apply bA)); exact BK287.out) hb)
                          have n6_ := Aside0.mk (blk_below (g := gb298) (o := .cells #[.int .u64 t292, .int .u64 t293] 58 (0, 0)) (by (with_reducible repeat (first | apply bN | apply bD | apply bA)); exact BK298.out) hb)
                          have n7_ := Aside0.mk (blk_below (g := gb299) (o := .cells #[.int .u64 t294, .int .u64 t295] 58 (0, 0)) (by (with_reducible repeat (first | apply bN | apply bD | apply bA)); exact BK299.out) hb)
                          have n8_ := Aside0.mk (below_step (by repeat (first | (with_reducible first | exact HB.out | apply lA | apply lN | apply lD | refine lS ?_ ‹_›) | exact HB.out)) hb)
                          clear HO_35; clear HO_50; clear BK264; clear BK265; clear BK286; clear BK287; clear BK298; clear BK299; clear HB
                          have HO_35 := n0_
                          have HO_50 := n1_
                          have BK264 := n2_; have BK265 := n3_; have BK286 := n4_; have BK287 := n5_; have BK298 := n6_; have BK299 := n7_; have HB := n8_; clear n0_ n1_ n2_ n3_ n4_ n5_ n6_ n7_ n8_; (try clear hb); (try clear hb2); (try clear hk); (try clear hi)
                          refine hK.out _ _ ⟨(blk_cell BK286.out 0).trans rfl, (blk_cell BK286.out 1).trans rfl, (blk_cell BK287.out 0).trans rfl, (blk_cell BK287.out 1).trans rfl, (blk_cell BK264.out 0).trans rfl, (blk_cell BK264.out 1).trans rfl, (blk_cell BK264.out 2).trans rfl, (blk_cell BK264.out 3).trans rfl⟩ (fun hHeld => ?_)
                          clear hK K
                          refine norm_ (a' := ?_) ?_ ?_; rotate_left
                          ·
                           show Act.put _ (some 196) _ = _
                           simp only [Act.put, qT, q0, q1, i64_w, i32_w]; rfl
                          refine pure_ (i := 36) (N := some 197) (v := ?_) (a' := ?_) #[y,y,y,y,y,y,y,y,y,y,y,y,y,y,y,y,y,y,y,y,y,y,y,y,y,y,y,y,y,y,y,y,y,y,y,y,y,z,z,z,z,z,z,z,z,z,z] rfl rfl (any_of HT_.out (by kernel_rfl)) (fun _ _ _ h => h) (Or.inl ⟨by rfl, ?_⟩) ?_ ?_; rotate_left
                          · intro w'; go_simp; with_reducible rfl
                          rotate_left
                          · simp only [Act.put, qT, q0, q1, i64_w, i32_w]; rfl
                          refine pure_ (i := 37) (N := some 198) (v := ?_) (a' := ?_) #[y,y,y,y,y,y,y,y,y,y,y,y,y,y,y,y,y,y,y,y,y,y,y,y,y,y,y,y,y,y,y,y,y,y,y,y,y,y,z,z,z,z,z,z,z,z,z] rfl rfl (any_of HT_.out (by kernel_rfl)) (fun _ _ _ h => h) (Or.inl ⟨by rfl, ?_⟩) ?_ ?_; rotate_left
                          · intro w'; go_simp; with_reducible rfl
                          rotate_left
                          · simp only [Act.put, qT, q0, q1, i64_w, i32_w]; rfl
                          refine pure_ (i := 38) (N := some 199) (v := ?_) (a' := ?_) #[y,y,y,y,y,y,y,y,y,y,y,y,y,y,y,y,y,y,y,y,y,y,y,y,y,y,y,y,y,y,y,y,y,y,y,y,y,y,y,z,z,z,z,z,z,z,z] rfl rfl (any_of HT_.out (by kernel_rfl)) (fun _ _ _ h => h) (Or.inl ⟨by rfl, ?_⟩) ?_ ?_; rotate_left
                          · intro w'; go_simp; with_reducible rfl
                          rotate_left
                          · simp only [Act.put, qT, q0, q1, i64_w, i32_w]; rfl
                          refine pure_ (i := 39) (N := some 200) (v := ?_) (a' := ?_) #[y,y,y,y,y,y,y,y,y,y,y,y,y,y,y,y,y,y,y,y,y,y,y,y,y,y,y,y,y,y,y,y,y,y,y,y,y,y,y,y,z,z,z,z,z,z,z] rfl rfl (any_of HT_.out (by kernel_rfl)) (fun _ _ _ h => h) (Or.inl ⟨by rfl, ?_⟩) ?_ ?_; rotate_left
                          · intro w'; go_simp; with_reducible rfl
                          rotate_left
                          · simp only [Act.put, qT, q0, q1, i64_w, i32_w]; rfl
                          refine pure_ (i := 41) (N := some 202) (v := ?_) (a' := ?_) #[y,y,y,y,y,y,y,y,y,y,y,y,y,y,y,y,y,y,y,y,y,y,y,y,y,y,y,y,y,y,y,y,y,y,y,y,y,y,y,y,z,y,z,z,z,z,z] rfl rfl (any_of HT_.out (by kernel_rfl)) (fun _ _ _ h => h) (Or.inl ⟨by rfl, ?_⟩) ?_ ?_; rotate_left
                          · intro w'; go_simp; with_reducible rfl
                          rotate_left
                          · simp only [Act.put, qT, q0, q1, i64_w, i32_w]; rfl
                          refine take_ (i := 40) (N := some 201) (v := ?_) (a' := ?_) #[y,y,y,y,y,y,y,y,y,y,y,y,y,y,y,y,y,y,y,y,y,y,y,y,y,y,y,y,y,y,y,y,y,y,y,y,y,y,y,y,y,y,z,z,z,z,z] rfl rfl (take_ofW HT_.out HW_.out (by kernel_rfl)) (fun _ _ _ h => h) (Or.inl ⟨by rfl, ?_⟩) hHeld ?_ ?_; rotate_left
                          ·
                           rintro w' ⟨s0, s1, s2, s3, s4, s5, s6, s7⟩
                           go_simp; with_reducible rfl
                          rotate_left
                          · simp only [Act.put, qT, q0, q1, i64_w, i32_w]; rfl
                          refine take_ (i := 42) (N := some 203) (v := ?_) (a' := ?_) #[y,y,y,y,y,y,y,y,y,y,y,y,y,y,y,y,y,y,y,y,y,y,y,y,y,y,y,y,y,y,y,y,y,y,y,y,y,y,y,y,y,y,y,z,z,z,z] rfl rfl (take_ofW HT_.out HW_.out (by kernel_rfl)) (fun _ _ _ h => h) (Or.inl ⟨by rfl, ?_⟩) hHeld ?_ ?_; rotate_left
                          ·
                           rintro w' ⟨s0, s1, s2, s3, s4, s5, s6, s7⟩
                           go_simp; with_reducible rfl
                          rotate_left
                          · simp only [Act.put, qT, q0, q1, i64_w, i32_w]; rfl
                          refine one_ (i := 43) (N := some 204) #[y,y,y,y,y,y,y,y,y,y,y,y,y,y,y,y,y,y,y,y,y,y,y,y,y,y,y,y,y,y,y,y,y,y,y,y,y,y,y,y,y,y,y,y,z,z,z] rfl rfl (one_of HT_.out (by kernel_rfl)) (by decide) (fun K hK => ?_)
                          refine goes_ Try.func31 (by kernel_rfl) rfl #[.agg #[.int .u64 a1_2, .int .u64 a1_3]] (by rfl) rfl rfl (by (try simp only [List.map_toArray, List.map_cons, List.map_nil]); first | done | rfl | (simp only [List.length_drop, List.length_take]; rfl)) ?_
                          with_reducible refine (posternref15_Hi.calls a1_2 a1_3 t303 _ A135.out).mono ?_
                          rintro e w141 ⟨rfl, hb⟩; refine ⟨_, rfl, ?_⟩
                          have n0_ := Aside0.mk (Kd.R_below (by (with_reducible repeat (first | apply Kd.R_alloc | apply Kd.R_drewN | apply Kd.R_drew)); exact HO_35.out) hb)
                          have n1_ := Aside0.mk (Kd.R_below (by (with_reducible repeat (first | apply Kd.R_alloc | apply Kd.R_drewN | apply Kd.R_drew)); exact HO_50.out) hb)
                          have n2_ := Aside0.mk (blk_below (g := gb264) (o := .cells #[.int .u64 a1_0, .int .u64 a1_1, .int .u64 a1_2, .int .u64 a1_3] 63 (0, 0)) (by (with_reducible repeat (first | apply bN | apply bD | apply bA)); exact BK264.out) hb)
                          have n3_ := Aside0.mk (blk_below (g := gb265) (o := .cells #[.int .u64 a2_0, .int .u64 a2_1] 26 (0, 0)) (by (with_reducible repeat (first | apply bN | apply bD | apply bA)); exact BK265.out) hb)
                          have n4_ := Aside0.mk (blk_below (g := gb286) (o := .cells #[.int .u64 t280, .int .u64 t281] 58 (0, 0)) (by (with_reducible repeat (first | apply bN | apply bD | apply bA)); exact BK286.out) hb)
                          have n5_ := Aside0.mk (blk_below (g := gb287) (o := .cells #[.int .u64 t282, .int .u64 t283] 58 (0, 0)) (by (with_reducible repeat (first | apply bN | apply bD | apply bA)); exact BK287.out) hb)
                          have n6_ := Aside0.mk (blk_below (g := gb298) (o := .cells #[.int .u64 t292, .int .u64 t293] 58 (0, 0)) (by (with_reducible repeat (first | apply bN | apply bD | apply bA)); exact BK298.out) hb)
                          have n7_ := Aside0.mk (blk_below (g := gb299) (o := .cells #[.int .u64 t294, .int .u64 t295] 58 (0, 0)) (by (with_reducible repeat (first | apply bN | apply bD | apply bA)); exact BK299.out) hb)
                          have n8_ := Aside0.mk (below_step (by repeat (first | (with_reducible first | exact HB.out | apply lA | apply lN | apply lD | refine lS ?_ ‹_›) | exact HB.out)) hb)
                          clear HO_35; clear HO_50; clear BK264; clear BK265; clear BK286; clear BK287; clear BK298; clear BK299; clear HB
                          have HO_35 := n0_
                          have HO_50 := n1_
                          have BK264 := n2_; have BK265 := n3_; have BK286 := n4_; have BK287 := n5_; have BK298 := n6_; have BK299 := n7_; have HB := n8_; clear n0_ n1_ n2_ n3_ n4_ n5_ n6_ n7_ n8_; (try clear hb); (try clear hb2); (try clear hk); (try clear hi)
                          refine hK.out _ _ ⟨(blk_cell BK286.out 0).trans rfl, (blk_cell BK286.out 1).trans rfl, (blk_cell BK287.out 0).trans rfl, (blk_cell BK287.out 1).trans rfl, (blk_cell BK264.out 0).trans rfl, (blk_cell BK264.out 1).trans rfl, (blk_cell BK264.out 2).trans rfl, (blk_cell BK264.out 3).trans rfl⟩ (fun hHeld => ?_)
                          clear hK K
                          refine norm_ (a' := ?_) ?_ ?_; rotate_left
                          ·
                           show Act.put _ (some 204) _ = _
                           simp only [Act.put, qT, q0, q1, i64_w, i32_w]; rfl
                          refine pure_ (i := 44) (N := some 205) (v := ?_) (a' := ?_) #[y,y,y,y,y,y,y,y,y,y,y,y,y,y,y,y,y,y,y,y,y,y,y,y,y,y,y,y,y,y,y,y,y,y,y,y,y,y,y,y,y,y,y,y,y,z,z] rfl rfl (any_of HT_.out (by kernel_rfl)) (fun _ _ _ h => h) (Or.inl ⟨by rfl, ?_⟩) ?_ ?_; rotate_left
                          · intro w'; go_simp; with_reducible rfl
                          rotate_left
                          · simp only [Act.put, qT, q0, q1, i64_w, i32_w]; rfl
                          refine pure_ (i := 45) (N := some 206) (v := ?_) (a' := ?_) #[y,y,y,y,y,y,y,y,y,y,y,y,y,y,y,y,y,y,y,y,y,y,y,y,y,y,y,y,y,y,y,y,y,y,y,y,y,y,y,y,y,y,y,y,y,y,z] rfl rfl (any_of HT_.out (by kernel_rfl)) (fun _ _ _ h => h) (Or.inl ⟨by rfl, ?_⟩) ?_ ?_; rotate_left
                          · intro w'; go_simp; with_reducible rfl
                          rotate_left
                          · simp only [Act.put, qT, q0, q1, i64_w, i32_w]; rfl
                          refine pure_ (i := 46) (N := some 207) (v := ?_) (a' := ?_) #[y,y,y,y,y,y,y,y,y,y,y,y,y,y,y,y,y,y,y,y,y,y,y,y,y,y,y,y,y,y,y,y,y,y,y,y,y,y,y,y,y,y,y,y,y,y,y] rfl rfl (any_of HT_.out (by kernel_rfl)) (fun _ _ _ h => h) (Or.inl ⟨by rfl, ?_⟩) ?_ ?_; rotate_left
                          · intro w'; go_simp; with_reducible rfl
                          rotate_left
                          · simp only [Act.put, qT, q0, q1, i64_w, i32_w]; rfl
                          refine done_ (done_of HT_.out (by kernel_rfl)) ?_
                          try go_wp2
                          go_roundg kj84
                          case measure => have := HK1.out; have := HK2.out; have := HJ32.out; have := HJ84.out; omega
                          case rel => exact ⟨(wrap64 (x52_2 + 1)), (by first | rfl | (simp; done) | (simp [*]; done)), H', ⟨by have := HK1.out; have := HK2.out; have := HJ32.out; have := HJ84.out; omega⟩, ⟨by (with_reducible repeat (first | apply Kd.R_alloc | apply Kd.R_drewN | apply Kd.R_drew)); exact HO_35.out⟩, ⟨by (with_reducible repeat (first | apply Kd.R_alloc | apply Kd.R_drewN | apply Kd.R_drew)); exact HO_50.out⟩, ⟨by (with_reducible repeat (first | apply bN | apply bD | apply bA)); exact BK264.out⟩, ⟨by (with_reducible repeat (first | apply bN | apply bD | apply bA)); exact BK265.out⟩, ⟨by repeat (first | (with_reducible first | exact HB.out | apply lA | apply lN | apply lD | refine lS ?_ ‹_›) | exact HB.out)⟩⟩
                   ·
                    replace c126 := Bool.eq_false_iff.mpr c126
                    subst c126
                    have H1 : (posternlaw15_SpanNarrow.l1 kj84 a0 t267 t268 (rdOf false y269 x37_1) t274 true y269 (y269.length : Int) x37_1 y276 (y276.length : Int) (wrap64 (x52_2 + 1)) a1_0 a1_1 a1_2 a1_3) = some r := by rw [if_neg (show ¬ (false = true) by decide)] at H; exact H
                    clear H; have H := H1; clear H1; have H' := Aside0.mk H; clear H
                    try go_wp2
                    have n0_ := Aside0.mk (Kd.R_drew HO_35.out)
                    have n1_ := Aside0.mk (Kd.R_drew HO_50.out)
                    have n2_ := Aside0.mk (blk_drew BK264.out); have n3_ := Aside0.mk (blk_drew BK265.out); have n4_ := Aside0.mk (blk_drew BK286.out); have n5_ := Aside0.mk (blk_drew BK287.out); have n6_ := Aside0.mk (blk_drew BK298.out); have n7_ := Aside0.mk (blk_drew BK299.out)
                    have n8_ := Aside0.mk (below_drew1 HB.out)
                    clear HO_35; clear HO_50; clear BK264; clear BK265; clear BK286; clear BK287; clear BK298; clear BK299; clear HB
                    have HO_35 := n0_
                    have HO_50 := n1_
                    have BK264 := n2_; have BK265 := n3_; have BK286 := n4_; have BK287 := n5_; have BK298 := n6_; have BK299 := n7_; have HB := n8_; clear n0_ n1_ n2_ n3_ n4_ n5_ n6_ n7_ n8_
                    refine start_ (n := 47) (S := fun w' => True) (ds := []) #[z,z,z,z,z,z,z,z,z,z,z,z,z,z,z,z,z,z,z,z,z,z,z,z,z,z,z,z,z,z,z,z,z,z,z,z,z,z,z,z,z,z,z,z,z,z,z] (by kernel_rfl) rfl rfl trivial (fun hHeld => ?_); refine with_tabW posternlaw15_SpanNarrow.tab20 posternlaw15_SpanNarrow.bits20 (fun HT_ HW_ => ?_)
                    generalize wc.drew = w142 at HO_35 HO_50 BK264 BK265 BK286 BK287 BK298 BK299 HB hHeld ⊢
                    refine pure_ (i := 0) (N := some 161) (v := ?_) (a' := ?_) #[y,z,z,z,z,z,z,z,z,z,z,z,z,z,z,z,z,z,z,z,z,z,z,z,z,z,z,z,z,z,z,z,z,z,z,z,z,z,z,z,z,z,z,z,z,z,z] rfl rfl (any_of HT_.out (by kernel_rfl)) (fun _ _ _ h => h) (Or.inl ⟨by rfl, ?_⟩) ?_ ?_; rotate_left
                    · intro w'; go_simp; with_reducible rfl
                    rotate_left
                    · simp only [Act.put, qT, q0, q1, i64_w, i32_w]; rfl
                    refine pure_ (i := 1) (N := some 162) (v := ?_) (a' := ?_) #[y,y,z,z,z,z,z,z,z,z,z,z,z,z,z,z,z,z,z,z,z,z,z,z,z,z,z,z,z,z,z,z,z,z,z,z,z,z,z,z,z,z,z,z,z,z,z] rfl rfl (any_of HT_.out (by kernel_rfl)) (fun _ _ _ h => h) (Or.inl ⟨by rfl, ?_⟩) ?_ ?_; rotate_left
                    · intro w'; go_simp; with_reducible rfl
                    rotate_left
                    · simp only [Act.put, qT, q0, q1, i64_w, i32_w]; rfl
                    refine pure_ (i := 2) (N := some 163) (v := undef) (a' := ?_) #[y,y,y,z,z,z,z,z,z,z,z,z,z,z,z,z,z,z,z,z,z,z,z,z,z,z,z,z,z,z,z,z,z,z,z,z,z,z,z,z,z,z,z,z,z,z,z] rfl rfl (any_of HT_.out (by kernel_rfl)) (fun _ _ _ h => h) (Or.inr ⟨by rfl, rfl⟩) ?_ ?_; rotate_left
                    · simp only [Act.put, qT, q0, q1, i64_w, i32_w]; rfl
                    refine pure_ (i := 3) (N := some 164) (v := undef) (a' := ?_) #[y,y,y,y,z,z,z,z,z,z,z,z,z,z,z,z,z,z,z,z,z,z,z,z,z,z,z,z,z,z,z,z,z,z,z,z,z,z,z,z,z,z,z,z,z,z,z] rfl rfl (any_of HT_.out (by kernel_rfl)) (fun _ _ _ h => h) (Or.inr ⟨by rfl, rfl⟩) ?_ ?_; rotate_left
                    · simp only [Act.put, qT, q0, q1, i64_w, i32_w]; rfl
                    refine pure_ (i := 4) (N := some 165) (v := undef) (a' := ?_) #[y,y,y,y,y,z,z,z,z,z,z,z,z,z,z,z,z,z,z,z,z,z,z,z,z,z,z,z,z,z,z,z,z,z,z,z,z,z,z,z,z,z,z,z,z,z,z] rfl rfl (any_of HT_.out (by kernel_rfl)) (fun _ _ _ h => h) (Or.inr ⟨by rfl, rfl⟩) ?_ ?_; rotate_left
                    · simp only [Act.put, qT, q0, q1, i64_w, i32_w]; rfl
                    refine pure_ (i := 5) (N := some 166) (v := undef) (a' := ?_) #[y,y,y,y,y,y,z,z,z,z,z,z,z,z,z,z,z,z,z,z,z,z,z,z,z,z,z,z,z,z,z,z,z,z,z,z,z,z,z,z,z,z,z,z,z,z,z] rfl rfl (any_of HT_.out (by kernel_rfl)) (fun _ _ _ h => h) (Or.inr ⟨by rfl, rfl⟩) ?_ ?_; rotate_left
                    · simp only [Act.put, qT, q0, q1, i64_w, i32_w]; rfl
                    refine pure_ (i := 6) (N := some 167) (v := undef) (a' := ?_) #[y,y,y,y,y,y,y,z,z,z,z,z,z,z,z,z,z,z,z,z,z,z,z,z,z,z,z,z,z,z,z,z,z,z,z,z,z,z,z,z,z,z,z,z,z,z,z] rfl rfl (any_of HT_.out (by kernel_rfl)) (fun _ _ _ h => h) (Or.inr ⟨by rfl, rfl⟩) ?_ ?_; rotate_left
                    · simp only [Act.put, qT, q0, q1, i64_w, i32_w]; rfl
                    refine pure_ (i := 7) (N := some 168) (v := undef) (a' := ?_) #[y,y,y,y,y,y,y,y,z,z,z,z,z,z,z,z,z,z,z,z,z,z,z,z,z,z,z,z,z,z,z,z,z,z,z,z,z,z,z,z,z,z,z,z,z,z,z] rfl rfl (any_of HT_.out (by kernel_rfl)) (fun _ _ _ h => h) (Or.inr ⟨by rfl, rfl⟩) ?_ ?_; rotate_left
                    · simp only [Act.put, qT, q0, q1, i64_w, i32_w]; rfl
                    refine pure_ (i := 8) (N := some 169) (v := undef) (a' := ?_) #[y,y,y,y,y,y,y,y,y,z,z,z,z,z,z,z,z,z,z,z,z,z,z,z,z,z,z,z,z,z,z,z,z,z,z,z,z,z,z,z,z,z,z,z,z,z,z] rfl rfl (any_of HT_.out (by kernel_rfl)) (fun _ _ _ h => h) (Or.inr ⟨by rfl, rfl⟩) ?_ ?_; rotate_left
                    · simp only [Act.put, qT, q0, q1, i64_w, i32_w]; rfl
                    refine pure_ (i := 9) (N := some 170) (v := undef) (a' := ?_) #[y,y,y,y,y,y,y,y,y,y,z,z,z,z,z,z,z,z,z,z,z,z,z,z,z,z,z,z,z,z,z,z,z,z,z,z,z,z,z,z,z,z,z,z,z,z,z] rfl rfl (any_of HT_.out (by kernel_rfl)) (fun _ _ _ h => h) (Or.inr ⟨by rfl, rfl⟩) ?_ ?_; rotate_left
                    · simp only [Act.put, qT, q0, q1, i64_w, i32_w]; rfl
                    refine pure_ (i := 10) (N := some 171) (v := undef) (a' := ?_) #[y,y,y,y,y,y,y,y,y,y,y,z,z,z,z,z,z,z,z,z,z,z,z,z,z,z,z,z,z,z,z,z,z,z,z,z,z,z,z,z,z,z,z,z,z,z,z] rfl rfl (any_of HT_.out (by kernel_rfl)) (fun _ _ _ h => h) (Or.inr ⟨by rfl, rfl⟩) ?_ ?_; rotate_left
                    · simp only [Act.put, qT, q0, q1, i64_w, i32_w]; rfl
                    refine pure_ (i := 11) (N := some 172) (v := undef) (a' := ?_) #[y,y,y,y,y,y,y,y,y,y,y,y,z,z,z,z,z,z,z,z,z,z,z,z,z,z,z,z,z,z,z,z,z,z,z,z,z,z,z,z,z,z,z,z,z,z,z] rfl rfl (any_of HT_.out (by kernel_rfl)) (fun _ _ _ h => h) (Or.inr ⟨by rfl, rfl⟩) ?_ ?_; rotate_left
                    · simp only [Act.put, qT, q0, q1, i64_w, i32_w]; rfl
                    refine pure_ (i := 12) (N := some 173) (v := undef) (a' := ?_) #[y,y,y,y,y,y,y,y,y,y,y,y,y,z,z,z,z,z,z,z,z,z,z,z,z,z,z,z,z,z,z,z,z,z,z,z,z,z,z,z,z,z,z,z,z,z,z] rfl rfl (any_of HT_.out (by kernel_rfl)) (fun _ _ _ h => h) (Or.inr ⟨by rfl, rfl⟩) ?_ ?_; rotate_left
                    · simp only [Act.put, qT, q0, q1, i64_w, i32_w]; rfl
                    refine pure_ (i := 13) (N := some 174) (v := undef) (a' := ?_) #[y,y,y,y,y,y,y,y,y,y,y,y,y,y,z,z,z,z,z,z,z,z,z,z,z,z,z,z,z,z,z,z,z,z,z,z,z,z,z,z,z,z,z,z,z,z,z] rfl rfl (any_of HT_.out (by kernel_rfl)) (fun _ _ _ h => h) (Or.inr ⟨by rfl, rfl⟩) ?_ ?_; rotate_left
                    · simp only [Act.put, qT, q0, q1, i64_w, i32_w]; rfl
                    refine pure_ (i := 14) (N := some 175) (v := undef) (a' := ?_) #[y,y,y,y,y,y,y,y,y,y,y,y,y,y,y,z,z,z,z,z,z,z,z,z,z,z,z,z,z,z,z,z,z,z,z,z,z,z,z,z,z,z,z,z,z,z,z] rfl rfl (any_of HT_.out (by kernel_rfl)) (fun _ _ _ h => h) (Or.inr ⟨by rfl, rfl⟩) ?_ ?_; rotate_left
                    · simp only [Act.put, qT, q0, q1, i64_w, i32_w]; rfl
                    refine pure_ (i := 15) (N := some 176) (v := undef) (a' := ?_) #[y,y,y,y,y,y,y,y,y,y,y,y,y,y,y,y,z,z,z,z,z,z,z,z,z,z,z,z,z,z,z,z,z,z,z,z,z,z,z,z,z,z,z,z,z,z,z] rfl rfl (any_of HT_.out (by kernel_rfl)) (fun _ _ _ h => h) (Or.inr ⟨by rfl, rfl⟩) ?_ ?_; rotate_left
                    · simp only [Act.put, qT, q0, q1, i64_w, i32_w]; rfl
                    refine pure_ (i := 16) (N := some 177) (v := undef) (a' := ?_) #[y,y,y,y,y,y,y,y,y,y,y,y,y,y,y,y,y,z,z,z,z,z,z,z,z,z,z,z,z,z,z,z,z,z,z,z,z,z,z,z,z,z,z,z,z,z,z] rfl rfl (any_of HT_.out (by kernel_rfl)) (fun _ _ _ h => h) (Or.inr ⟨by rfl, rfl⟩) ?_ ?_; rotate_left
                    · simp only [Act.put, qT, q0, q1, i64_w, i32_w]; rfl
                    refine pure_ (i := 17) (N := some 178) (v := undef) (a' := ?_) #[y,y,y,y,y,y,y,y,y,y,y,y,y,y,y,y,y,y,z,z,z,z,z,z,z,z,z,z,z,z,z,z,z,z,z,z,z,z,z,z,z,z,z,z,z,z,z] rfl rfl (any_of HT_.out (by kernel_rfl)) (fun _ _ _ h => h) (Or.inr ⟨by rfl, rfl⟩) ?_ ?_; rotate_left
                    · simp only [Act.put, qT, q0, q1, i64_w, i32_w]; rfl
                    refine pure_ (i := 18) (N := some 179) (v := undef) (a' := ?_) #[y,y,y,y,y,y,y,y,y,y,y,y,y,y,y,y,y,y,y,z,z,z,z,z,z,z,z,z,z,z,z,z,z,z,z,z,z,z,z,z,z,z,z,z,z,z,z] rfl rfl (any_of HT_.out (by kernel_rfl)) (fun _ _ _ h => h) (Or.inr ⟨by rfl, rfl⟩) ?_ ?_; rotate_left
                    · simp only [Act.put, qT, q0, q1, i64_w, i32_w]; rfl
                    refine pure_ (i := 19) (N := some 180) (v := undef) (a' := ?_) #[y,y,y,y,y,y,y,y,y,y,y,y,y,y,y,y,y,y,y,y,z,z,z,z,z,z,z,z,z,z,z,z,z,z,z,z,z,z,z,z,z,z,z,z,z,z,z] rfl rfl (any_of HT_.out (by kernel_rfl)) (fun _ _ _ h => h) (Or.inr ⟨by rfl, rfl⟩) ?_ ?_; rotate_left
                    · simp only [Act.put, qT, q0, q1, i64_w, i32_w]; rfl
                    refine pure_ (i := 20) (N := some 181) (v := undef) (a' := ?_) #[y,y,y,y,y,y,y,y,y,y,y,y,y,y,y,y,y,y,y,y,y,z,z,z,z,z,z,z,z,z,z,z,z,z,z,z,z,z,z,z,z,z,z,z,z,z,z] rfl rfl (any_of HT_.out (by kernel_rfl)) (fun _ _ _ h => h) (Or.inr ⟨by rfl, rfl⟩) ?_ ?_; rotate_left
                    · simp only [Act.put, qT, q0, q1, i64_w, i32_w]; rfl
                    refine pure_ (i := 21) (N := some 182) (v := undef) (a' := ?_) #[y,y,y,y,y,y,y,y,y,y,y,y,y,y,y,y,y,y,y,y,y,y,z,z,z,z,z,z,z,z,z,z,z,z,z,z,z,z,z,z,z,z,z,z,z,z,z] rfl rfl (any_of HT_.out (by kernel_rfl)) (fun _ _ _ h => h) (Or.inr ⟨by rfl, rfl⟩) ?_ ?_; rotate_left
                    · simp only [Act.put, qT, q0, q1, i64_w, i32_w]; rfl
                    refine pure_ (i := 22) (N := some 183) (v := undef) (a' := ?_) #[y,y,y,y,y,y,y,y,y,y,y,y,y,y,y,y,y,y,y,y,y,y,y,z,z,z,z,z,z,z,z,z,z,z,z,z,z,z,z,z,z,z,z,z,z,z,z] rfl rfl (any_of HT_.out (by kernel_rfl)) (fun _ _ _ h => h) (Or.inr ⟨by rfl, rfl⟩) ?_ ?_; rotate_left
                    · simp only [Act.put, qT, q0, q1, i64_w, i32_w]; rfl
                    refine pure_ (i := 23) (N := some 184) (v := undef) (a' := ?_) #[y,y,y,y,y,y,y,y,y,y,y,y,y,y,y,y,y,y,y,y,y,y,y,y,z,z,z,z,z,z,z,z,z,z,z,z,z,z,z,z,z,z,z,z,z,z,z] rfl rfl (any_of HT_.out (by kernel_rfl)) (fun _ _ _ h => h) (Or.inr ⟨by rfl, rfl⟩) ?_ ?_; rotate_left
                    · simp only [Act.put, qT, q0, q1, i64_w, i32_w]; rfl
                    refine pure_ (i := 24) (N := some 185) (v := undef) (a' := ?_) #[y,y,y,y,y,y,y,y,y,y,y,y,y,y,y,y,y,y,y,y,y,y,y,y,y,z,z,z,z,z,z,z,z,z,z,z,z,z,z,z,z,z,z,z,z,z,z] rfl rfl (any_of HT_.out (by kernel_rfl)) (fun _ _ _ h => h) (Or.inr ⟨by rfl, rfl⟩) ?_ ?_; rotate_left
                    · simp only [Act.put, qT, q0, q1, i64_w, i32_w]; rfl
                    refine pure_ (i := 25) (N := some 186) (v := undef) (a' := ?_) #[y,y,y,y,y,y,y,y,y,y,y,y,y,y,y,y,y,y,y,y,y,y,y,y,y,y,z,z,z,z,z,z,z,z,z,z,z,z,z,z,z,z,z,z,z,z,z] rfl rfl (any_of HT_.out (by kernel_rfl)) (fun _ _ _ h => h) (Or.inr ⟨by rfl, rfl⟩) ?_ ?_; rotate_left
                    · simp only [Act.put, qT, q0, q1, i64_w, i32_w]; rfl
                    refine pure_ (i := 26) (N := some 187) (v := undef) (a' := ?_) #[y,y,y,y,y,y,y,y,y,y,y,y,y,y,y,y,y,y,y,y,y,y,y,y,y,y,y,z,z,z,z,z,z,z,z,z,z,z,z,z,z,z,z,z,z,z,z] rfl rfl (any_of HT_.out (by kernel_rfl)) (fun _ _ _ h => h) (Or.inr ⟨by rfl, rfl⟩) ?_ ?_; rotate_left
                    · simp only [Act.put, qT, q0, q1, i64_w, i32_w]; rfl
                    refine pure_ (i := 27) (N := some 188) (v := undef) (a' := ?_) #[y,y,y,y,y,y,y,y,y,y,y,y,y,y,y,y,y,y,y,y,y,y,y,y,y,y,y,y,z,z,z,z,z,z,z,z,z,z,z,z,z,z,z,z,z,z,z] rfl rfl (any_of HT_.out (by kernel_rfl)) (fun _ _ _ h => h) (Or.inr ⟨by rfl, rfl⟩) ?_ ?_; rotate_left
                    · simp only [Act.put, qT, q0, q1, i64_w, i32_w]; rfl
                    refine pure_ (i := 28) (N := some 189) (v := undef) (a' := ?_) #[y,y,y,y,y,y,y,y,y,y,y,y,y,y,y,y,y,y,y,y,y,y,y,y,y,y,y,y,y,z,z,z,z,z,z,z,z,z,z,z,z,z,z,z,z,z,z] rfl rfl (any_of HT_.out (by kernel_rfl)) (fun _ _ _ h => h) (Or.inr ⟨by rfl, rfl⟩) ?_ ?_; rotate_left
                    · simp only [Act.put, qT, q0, q1, i64_w, i32_w]; rfl
                    refine pure_ (i := 29) (N := some 190) (v := undef) (a' := ?_) #[y,y,y,y,y,y,y,y,y,y,y,y,y,y,y,y,y,y,y,y,y,y,y,y,y,y,y,y,y,y,z,z,z,z,z,z,z,z,z,z,z,z,z,z,z,z,z] rfl rfl (any_of HT_.out (by kernel_rfl)) (fun _ _ _ h => h) (Or.inr ⟨by rfl, rfl⟩) ?_ ?_; rotate_left
                    · simp only [Act.put, qT, q0, q1, i64_w, i32_w]; rfl
                    refine pure_ (i := 30) (N := some 191) (v := undef) (a' := ?_) #[y,y,y,y,y,y,y,y,y,y,y,y,y,y,y,y,y,y,y,y,y,y,y,y,y,y,y,y,y,y,y,z,z,z,z,z,z,z,z,z,z,z,z,z,z,z,z] rfl rfl (any_of HT_.out (by kernel_rfl)) (fun _ _ _ h => h) (Or.inr ⟨by rfl, rfl⟩) ?_ ?_; rotate_left
                    · simp only [Act.put, qT, q0, q1, i64_w, i32_w]; rfl
                    refine pure_ (i := 31) (N := some 192) (v := undef) (a' := ?_) #[y,y,y,y,y,y,y,y,y,y,y,y,y,y,y,y,y,y,y,y,y,y,y,y,y,y,y,y,y,y,y,y,z,z,z,z,z,z,z,z,z,z,z,z,z,z,z] rfl rfl (any_of HT_.out (by kernel_rfl)) (fun _ _ _ h => h) (Or.inr ⟨by rfl, rfl⟩) ?_ ?_; rotate_left
                    · simp only [Act.put, qT, q0, q1, i64_w, i32_w]; rfl
                    refine pure_ (i := 32) (N := some 193) (v := undef) (a' := ?_) #[y,y,y,y,y,y,y,y,y,y,y,y,y,y,y,y,y,y,y,y,y,y,y,y,y,y,y,y,y,y,y,y,y,z,z,z,z,z,z,z,z,z,z,z,z,z,z] rfl rfl (any_of HT_.out (by kernel_rfl)) (fun _ _ _ h => h) (Or.inr ⟨by rfl, rfl⟩) ?_ ?_; rotate_left
                    · simp only [Act.put, qT, q0, q1, i64_w, i32_w]; rfl
                    refine pure_ (i := 33) (N := some 194) (v := undef) (a' := ?_) #[y,y,y,y,y,y,y,y,y,y,y,y,y,y,y,y,y,y,y,y,y,y,y,y,y,y,y,y,y,y,y,y,y,y,z,z,z,z,z,z,z,z,z,z,z,z,z] rfl rfl (any_of HT_.out (by kernel_rfl)) (fun _ _ _ h => h) (Or.inr ⟨by rfl, rfl⟩) ?_ ?_; rotate_left
                    · simp only [Act.put, qT, q0, q1, i64_w, i32_w]; rfl
                    refine pure_ (i := 34) (N := some 195) (v := undef) (a' := ?_) #[y,y,y,y,y,y,y,y,y,y,y,y,y,y,y,y,y,y,y,y,y,y,y,y,y,y,y,y,y,y,y,y,y,y,y,z,z,z,z,z,z,z,z,z,z,z,z] rfl rfl (any_of HT_.out (by kernel_rfl)) (fun _ _ _ h => h) (Or.inr ⟨by rfl, rfl⟩) ?_ ?_; rotate_left
                    · simp only [Act.put, qT, q0, q1, i64_w, i32_w]; rfl
                    refine pure_ (i := 35) (N := some 196) (v := undef) (a' := ?_) #[y,y,y,y,y,y,y,y,y,y,y,y,y,y,y,y,y,y,y,y,y,y,y,y,y,y,y,y,y,y,y,y,y,y,y,y,z,z,z,z,z,z,z,z,z,z,z] rfl rfl (any_of HT_.out (by kernel_rfl)) (fun _ _ _ h => h) (Or.inr ⟨by rfl, rfl⟩) ?_ ?_; rotate_left
                    · simp only [Act.put, qT, q0, q1, i64_w, i32_w]; rfl
                    refine pure_ (i := 36) (N := some 197) (v := undef) (a' := ?_) #[y,y,y,y,y,y,y,y,y,y,y,y,y,y,y,y,y,y,y,y,y,y,y,y,y,y,y,y,y,y,y,y,y,y,y,y,y,z,z,z,z,z,z,z,z,z,z] rfl rfl (any_of HT_.out (by kernel_rfl)) (fun _ _ _ h => h) (Or.inr ⟨by rfl, rfl⟩) ?_ ?_; rotate_left
                    · simp only [Act.put, qT, q0, q1, i64_w, i32_w]; rfl
                    refine pure_ (i := 37) (N := some 198) (v := undef) (a' := ?_) #[y,y,y,y,y,y,y,y,y,y,y,y,y,y,y,y,y,y,y,y,y,y,y,y,y,y,y,y,y,y,y,y,y,y,y,y,y,y,z,z,z,z,z,z,z,z,z] rfl rfl (any_of HT_.out (by kernel_rfl)) (fun _ _ _ h => h) (Or.inr ⟨by rfl, rfl⟩) ?_ ?_; rotate_left
                    · simp only [Act.put, qT, q0, q1, i64_w, i32_w]; rfl
                    refine pure_ (i := 38) (N := some 199) (v := undef) (a' := ?_) #[y,y,y,y,y,y,y,y,y,y,y,y,y,y,y,y,y,y,y,y,y,y,y,y,y,y,y,y,y,y,y,y,y,y,y,y,y,y,y,z,z,z,z,z,z,z,z] rfl rfl (any_of HT_.out (by kernel_rfl)) (fun _ _ _ h => h) (Or.inr ⟨by rfl, rfl⟩) ?_ ?_; rotate_left
                    · simp only [Act.put, qT, q0, q1, i64_w, i32_w]; rfl
                    refine pure_ (i := 39) (N := some 200) (v := undef) (a' := ?_) #[y,y,y,y,y,y,y,y,y,y,y,y,y,y,y,y,y,y,y,y,y,y,y,y,y,y,y,y,y,y,y,y,y,y,y,y,y,y,y,y,z,z,z,z,z,z,z] rfl rfl (any_of HT_.out (by kernel_rfl)) (fun _ _ _ h => h) (Or.inr ⟨by rfl, rfl⟩) ?_ ?_; rotate_left
                    · simp only [Act.put, qT, q0, q1, i64_w, i32_w]; rfl
                    refine pure_ (i := 40) (N := some 201) (v := undef) (a' := ?_) #[y,y,y,y,y,y,y,y,y,y,y,y,y,y,y,y,y,y,y,y,y,y,y,y,y,y,y,y,y,y,y,y,y,y,y,y,y,y,y,y,y,z,z,z,z,z,z] rfl rfl (any_of HT_.out (by kernel_rfl)) (fun _ _ _ h => h) (Or.inr ⟨by rfl, rfl⟩) ?_ ?_; rotate_left
                    · simp only [Act.put, qT, q0, q1, i64_w, i32_w]; rfl
                    refine pure_ (i := 41) (N := some 202) (v := undef) (a' := ?_) #[y,y,y,y,y,y,y,y,y,y,y,y,y,y,y,y,y,y,y,y,y,y,y,y,y,y,y,y,y,y,y,y,y,y,y,y,y,y,y,y,y,y,z,z,z,z,z] rfl rfl (any_of HT_.out (by kernel_rfl)) (fun _ _ _ h => h) (Or.inr ⟨by rfl, rfl⟩) ?_ ?_; rotate_left
                    · simp only [Act.put, qT, q0, q1, i64_w, i32_w]; rfl
                    refine pure_ (i := 42) (N := some 203) (v := undef) (a' := ?_) #[y,y,y,y,y,y,y,y,y,y,y,y,y,y,y,y,y,y,y,y,y,y,y,y,y,y,y,y,y,y,y,y,y,y,y,y,y,y,y,y,y,y,y,z,z,z,z] rfl rfl (any_of HT_.out (by kernel_rfl)) (fun _ _ _ h => h) (Or.inr ⟨by rfl, rfl⟩) ?_ ?_; rotate_left
                    · simp only [Act.put, qT, q0, q1, i64_w, i32_w]; rfl
                    refine pure_ (i := 43) (N := some 204) (v := undef) (a' := ?_) #[y,y,y,y,y,y,y,y,y,y,y,y,y,y,y,y,y,y,y,y,y,y,y,y,y,y,y,y,y,y,y,y,y,y,y,y,y,y,y,y,y,y,y,y,z,z,z] rfl rfl (any_of HT_.out (by kernel_rfl)) (fun _ _ _ h => h) (Or.inr ⟨by rfl, rfl⟩) ?_ ?_; rotate_left
                    · simp only [Act.put, qT, q0, q1, i64_w, i32_w]; rfl
                    refine pure_ (i := 44) (N := some 205) (v := undef) (a' := ?_) #[y,y,y,y,y,y,y,y,y,y,y,y,y,y,y,y,y,y,y,y,y,y,y,y,y,y,y,y,y,y,y,y,y,y,y,y,y,y,y,y,y,y,y,y,y,z,z] rfl rfl (any_of HT_.out (by kernel_rfl)) (fun _ _ _ h => h) (Or.inr ⟨by rfl, rfl⟩) ?_ ?_; rotate_left
                    · simp only [Act.put, qT, q0, q1, i64_w, i32_w]; rfl
                    refine pure_ (i := 45) (N := some 206) (v := undef) (a' := ?_) #[y,y,y,y,y,y,y,y,y,y,y,y,y,y,y,y,y,y,y,y,y,y,y,y,y,y,y,y,y,y,y,y,y,y,y,y,y,y,y,y,y,y,y,y,y,y,z] rfl rfl (any_of HT_.out (by kernel_rfl)) (fun _ _ _ h => h) (Or.inr ⟨by rfl, rfl⟩) ?_ ?_; rotate_left
                    · simp only [Act.put, qT, q0, q1, i64_w, i32_w]; rfl
                    refine pure_ (i := 46) (N := some 207) (v := ?_) (a' := ?_) #[y,y,y,y,y,y,y,y,y,y,y,y,y,y,y,y,y,y,y,y,y,y,y,y,y,y,y,y,y,y,y,y,y,y,y,y,y,y,y,y,y,y,y,y,y,y,y] rfl rfl (any_of HT_.out (by kernel_rfl)) (fun _ _ _ h => h) (Or.inl ⟨by rfl, ?_⟩) ?_ ?_; rotate_left
                    · intro w'; go_simp; with_reducible rfl
                    rotate_left
                    · simp only [Act.put, qT, q0, q1, i64_w, i32_w]; rfl
                    refine done_ (done_of HT_.out (by kernel_rfl)) ?_
                    try go_wp2
                    go_roundg kj84
                    case measure => have := HK1.out; have := HK2.out; have := HJ32.out; have := HJ84.out; omega
                    case rel => exact ⟨(wrap64 (x52_2 + 1)), (by first | rfl | (simp; done) | (simp [*]; done)), H', ⟨by have := HK1.out; have := HK2.out; have := HJ32.out; have := HJ84.out; omega⟩, ⟨by (with_reducible repeat (first | apply Kd.R_alloc | apply Kd.R_drewN | apply Kd.R_drew)); exact HO_35.out⟩, ⟨by (with_reducible repeat (first | apply Kd.R_alloc | apply Kd.R_drewN | apply Kd.R_drew)); exact HO_50.out⟩, ⟨by (with_reducible repeat (first | apply bN | apply bD | apply bA)); exact BK264.out⟩, ⟨by (with_reducible repeat (first | apply bN | apply bD | apply bA)); exact BK265.out⟩, ⟨by repeat (first | (with_reducible first | exact HB.out | apply lA | apply lN | apply lD | refine lS ?_ ‹_›) | exact HB.out)⟩⟩
            ·
             replace c32 := Bool.eq_false_iff.mpr c32
             subst c32
             have H1 : (if t285 = 2 then (if t297 = 2 then (if t284 = true then (some false) else (if (!(t280 == 0) || (!(t281 == 0))) = true then (some false) else (if (!(t282 == 0) || (!(t283 == 0))) = true then (some false) else (posternlaw15_SpanNarrow.l1 k2 a0 t267 t268 (rdOf false y269 x37_1) t274 false y269 (y269.length : Int) x37_1 y276 (y276.length : Int) (wrap64 (x52_2 + 1)) a1_0 a1_1 a1_2 a1_3)))) else (some false)) else (some false)) = some r := by rw [if_neg (show ¬ (false = true) by decide)] at H; exact H
             clear H; have H := H1; clear H1
             by_cases c143 : t285 = 2
             ·
              rw [if_pos c143] at H
              have c143b0 : (t285 == 2) = true := beq_iff_eq.mpr c143; have c143b1 : (t285 != 2) = false := bne_eq_false_iff_eq.mpr c143; clear c143
              by_cases c144 : t297 = 2
              ·
               rw [if_pos c144] at H
               have c144b0 : (t297 == 2) = true := beq_iff_eq.mpr c144; have c144b1 : (t297 != 2) = false := bne_eq_false_iff_eq.mpr c144; clear c144
               by_cases c145 : t284 = true
               ·
                subst c145
                have H1 : (some false) = some r := by rw [if_pos rfl] at H; exact H
                clear H; have H := H1; clear H1
                exact absurd (H.trans (congrArg some hr_.out)) (by simp)
               ·
                replace c145 := Bool.eq_false_iff.mpr c145
                subst c145
                have H1 : (if (!(t280 == 0) || (!(t281 == 0))) = true then (some false) else (if (!(t282 == 0) || (!(t283 == 0))) = true then (some false) else (posternlaw15_SpanNarrow.l1 k2 a0 t267 t268 (rdOf false y269 x37_1) t274 false y269 (y269.length : Int) x37_1 y276 (y276.length : Int) (wrap64 (x52_2 + 1)) a1_0 a1_1 a1_2 a1_3))) = some r := by rw [if_neg (show ¬ (false = true) by decide)] at H; exact H
                clear H; have H := H1; clear H1
                by_cases c146 : (!(t280 == 0) || (!(t281 == 0))) = true
                ·
                 rw [if_pos c146] at H
                 have c146b0 : (!(t280 == 0) || (!(t281 == 0))) = true := c146
                 clear c146
                 exact absurd (H.trans (congrArg some hr_.out)) (by simp)
                ·
                 rw [if_neg c146] at H
                 have c146b0 : (!(t280 == 0) || (!(t281 == 0))) = false := by simpa using c146
                 clear c146
                 by_cases c147 : (!(t282 == 0) || (!(t283 == 0))) = true
                 ·
                  rw [if_pos c147] at H
                  have c147b0 : (!(t282 == 0) || (!(t283 == 0))) = true := c147
                  clear c147
                  exact absurd (H.trans (congrArg some hr_.out)) (by simp)
                 ·
                  rw [if_neg c147] at H
                  have c147b0 : (!(t282 == 0) || (!(t283 == 0))) = false := by simpa using c147
                  clear c147; have H' := Aside0.mk H; clear H
                  have p279 : 0 ≤ (x52_2 : Int) := of_decide_eq_true (by first | (with_reducible assumption) | assumption)
                  have q279 : x52_2 < (y276.length : Int) := of_decide_eq_true (by first | (with_reducible assumption) | assumption)
                  obtain ⟨ad279, e279, hx279_0⟩ := Kd.at_bool (Kd.R_reads' HO_50.out).2.2 x52_2 p279 q279
                  cases e279
                  replace p279 := eq_true p279
                  replace q279 := eq_true q279
                  have hnb148 := NB264_265.out; have hnc148 := NB265_264.out; have hcz149_0 : wr.cell? ⟨gb264, 0, none⟩ = some (.int .u64 a1_0) := (blk_cell BK264.out 0).trans rfl; have hcz149_1 : wr.cell? ⟨gb264, 1, none⟩ = some (.int .u64 a1_1) := (blk_cell BK264.out 1).trans rfl; have hcz149_2 : wr.cell? ⟨gb264, 2, none⟩ = some (.int .u64 a1_2) := (blk_cell BK264.out 2).trans rfl; have hcz149_3 : wr.cell? ⟨gb264, 3, none⟩ = some (.int .u64 a1_3) := (blk_cell BK264.out 3).trans rfl; have hfz149_0 := blk_frozen BK264.out 0; have hfz149_1 := blk_frozen BK264.out 1; have hfz149_2 := blk_frozen BK264.out 2; have hfz149_3 := blk_frozen BK264.out 3
                  go_wp2_with (first | ((with_reducible refine gate_callee (f := 36) rfl ?_); refine goesL_ (some 64) rfl rfl Try.func36 (by kernel_rfl) rfl #[.int .i64 a0, .bool (rdOf false y269 x37_1), .bool (rdOf false y276 x52_2), .agg #[.int .u64 a1_0, .int .u64 a1_1], .agg #[.int .u64 a1_2, .int .u64 a1_3]] rfl (by (try simp only [List.map_toArray, List.map_cons, List.map_nil]); first | done | rfl | (simp only [List.length_drop, List.length_take]; rfl)) ?_; (with_reducible refine (span_Narrow.calls k2 a0 (rdOf false y269 x37_1) (rdOf false y276 x52_2) a1_0 a1_1 a1_2 a1_3 t280 t281 t282 t283 false t285 _ A28.out).mono ?_); rintro e w150 ⟨rfl, hb⟩; refine ⟨_, rfl, ?_⟩; have n0_ := Aside0.mk (Kd.R_below (by (with_reducible repeat (first | apply Kd.R_alloc | apply Kd.R_drewN | apply Kd.R_drew)); exact HO_35.out) hb); have n1_ := Aside0.mk (Kd.R_below (by (with_reducible repeat (first | apply Kd.R_alloc | apply Kd.R_drewN | apply Kd.R_drew)); exact HO_50.out) hb); have n2_ := Aside0.mk (blk_below (g := gb264) (o := .cells #[.int .u64 a1_0, .int .u64 a1_1, .int .u64 a1_2, .int .u64 a1_3] 63 (0, 0)) (by (with_reducible repeat (first | apply bN | apply bD | apply bA)); exact BK264.out) hb); have n3_ := Aside0.mk (blk_below (g := gb265) (o := .cells #[.int .u64 a2_0, .int .u64 a2_1] 26 (0, 0)) (by (with_reducible repeat (first | apply bN | apply bD | apply bA)); exact BK265.out) hb); have n4_ := Aside0.mk (below_step (by repeat (first | (with_reducible first | exact HB.out | apply lA | apply lN | apply lD | refine lS ?_ ‹_›) | exact HB.out)) hb); clear HO_35; clear HO_50; clear BK264; clear BK265; clear HB; have HO_35 := n0_; have HO_50 := n1_; have BK264 := n2_; have BK265 := n3_; have HB := n4_; clear n0_ n1_ n2_ n3_ n4_; (try clear hb); (try clear hb2); (try clear hk); (try clear hi)) | ((with_reducible refine gate_dst (N := 15) rfl ?_); refine box_event ?hg (N := 15) ?hd (cs := #[.int .u64 0, .int .u64 0]) (t := 58) ?hr ?_; (case hd => rfl); (case hg => rfl); (case hr => first | (go_simp; done) | (go_simp; rfl)); intro gb286 hg w151 hbox hb; have n0_ := Aside0.mk (Kd.R_below (by (with_reducible repeat (first | apply Kd.R_alloc | apply Kd.R_drewN | apply Kd.R_drew)); exact HO_35.out) hb); have n1_ := Aside0.mk (Kd.R_below (by (with_reducible repeat (first | apply Kd.R_alloc | apply Kd.R_drewN | apply Kd.R_drew)); exact HO_50.out) hb); have n2_ := Aside0.mk (blk_below (g := gb264) (o := .cells #[.int .u64 a1_0, .int .u64 a1_1, .int .u64 a1_2, .int .u64 a1_3] 63 (0, 0)) (by (with_reducible repeat (first | apply bN | apply bD | apply bA)); exact BK264.out) hb); have n3_ := Aside0.mk (blk_below (g := gb265) (o := .cells #[.int .u64 a2_0, .int .u64 a2_1] 26 (0, 0)) (by (with_reducible repeat (first | apply bN | apply bD | apply bA)); exact BK265.out) hb); have n4_ := Aside0.mk (below_step (by repeat (first | (with_reducible first | exact HB.out | apply lA | apply lN | apply lD | refine lS ?_ ‹_›) | exact HB.out)) hb); have n5_ := Aside0.mk (hbox); have n6_ := Aside0.mk ((by rw [hg]; exact (below_size (by repeat (first | (with_reducible first | exact HB.out | apply lA | apply lN | apply lD | refine lS ?_ ‹_›) | exact HB.out))) : w.heap.size ≤ gb286)); have n7_ := n6_; have n8_ := Aside0.mk ((by rw [hg]; exact Nat.ne_of_lt (blk_lt (g := gb264) (o := .cells #[.int .u64 a1_0, .int .u64 a1_1, .int .u64 a1_2, .int .u64 a1_3] 63 (0, 0)) (by (with_reducible repeat (first | apply bN | apply bD | apply bA)); exact BK264.out)) : gb264 ≠ gb286)); have n9_ := sy n8_; have n10_ := Aside0.mk ((by rw [hg]; exact Nat.ne_of_lt (blk_lt (g := gb265) (o := .cells #[.int .u64 a2_0, .int .u64 a2_1] 26 (0, 0)) (by (with_reducible repeat (first | apply bN | apply bD | apply bA)); exact BK265.out)) : gb265 ≠ gb286)); have n11_ := sy n10_; clear HO_35; clear HO_50; clear BK264; clear BK265; clear HB; have HO_35 := n0_; have HO_50 := n1_; have BK264 := n2_; have BK265 := n3_; have HB := n4_; have BK286 := n5_; have GW286 := n6_; have GE286 := n7_; have NB264_286 := n8_; have NB286_264 := n9_; have NB265_286 := n10_; have NB286_265 := n11_; clear n0_ n1_ n2_ n3_ n4_ n5_ n6_ n7_ n8_ n9_ n10_ n11_; clear hb hbox hg) | ((with_reducible refine gate_dst (N := 16) rfl ?_); refine box_event ?hg (N := 16) ?hd (cs := #[.int .u64 0, .int .u64 0]) (t := 58) ?hr ?_; (case hd => rfl); (case hg => rfl); (case hr => first | (go_simp; done) | (go_simp; rfl)); intro gb287 hg w152 hbox hb; have n0_ := Aside0.mk (Kd.R_below (by (with_reducible repeat (first | apply Kd.R_alloc | apply Kd.R_drewN | apply Kd.R_drew)); exact HO_35.out) hb); have n1_ := Aside0.mk (Kd.R_below (by (with_reducible repeat (first | apply Kd.R_alloc | apply Kd.R_drewN | apply Kd.R_drew)); exact HO_50.out) hb); have n2_ := Aside0.mk (blk_below (g := gb264) (o := .cells #[.int .u64 a1_0, .int .u64 a1_1, .int .u64 a1_2, .int .u64 a1_3] 63 (0, 0)) (by (with_reducible repeat (first | apply bN | apply bD | apply bA)); exact BK264.out) hb); have n3_ := Aside0.mk (blk_below (g := gb265) (o := .cells #[.int .u64 a2_0, .int .u64 a2_1] 26 (0, 0)) (by (with_reducible repeat (first | apply bN | apply bD | apply bA)); exact BK265.out) hb); have n4_ := Aside0.mk (blk_below (g := gb286) (o := .cells #[.int .u64 0, .int .u64 0] 58 (0, 0)) (by (with_reducible repeat (first | apply bN | apply bD | apply bA)); exact BK286.out) hb); have n5_ := Aside0.mk (below_step (by repeat (first | (with_reducible first | exact HB.out | apply lA | apply lN | apply lD | refine lS ?_ ‹_›) | exact HB.out)) hb); have n6_ := Aside0.mk (hbox); have n7_ := Aside0.mk ((by rw [hg]; exact (below_size (by repeat (first | (with_reducible first | exact HB.out | apply lA | apply lN | apply lD | refine lS ?_ ‹_›) | exact HB.out))) : w.heap.size ≤ gb287)); have n8_ := n7_; have n9_ := Aside0.mk ((by rw [hg]; exact Nat.ne_of_lt (blk_lt (g := gb264) (o := .cells #[.int .u64 a1_0, .int .u64 a1_1, .int .u64 a1_2, .int .u64 a1_3] 63 (0, 0)) (by (with_reducible repeat (first | apply bN | apply bD | apply bA)); exact BK264.out)) : gb264 ≠ gb287)); have n10_ := sy n9_; have n11_ := Aside0.mk ((by rw [hg]; exact Nat.ne_of_lt (blk_lt (g := gb265) (o := .cells #[.int .u64 a2_0, .int .u64 a2_1] 26 (0, 0)) (by (with_reducible repeat (first | apply bN | apply bD | apply bA)); exact BK265.out)) : gb265 ≠ gb287)); have n12_ := sy n11_; have n13_ := Aside0.mk ((by rw [hg]; exact Nat.ne_of_lt (blk_lt (g := gb286) (o := .cells #[.int .u64 0, .int .u64 0] 58 (0, 0)) (by (with_reducible repeat (first | apply bN | apply bD | apply bA)); exact BK286.out)) : gb286 ≠ gb287)); have n14_ := sy n13_; clear HO_35; clear HO_50; clear BK264; clear BK265; clear BK286; clear HB; have HO_35 := n0_; have HO_50 := n1_; have BK264 := n2_; have BK265 := n3_; have BK286 := n4_; have HB := n5_; have BK287 := n6_; have GW287 := n7_; have GE287 := n8_; have NB264_287 := n9_; have NB287_264 := n10_; have NB265_287 := n11_; have NB287_265 := n12_; have NB286_287 := n13_; have NB287_286 := n14_; clear n0_ n1_ n2_ n3_ n4_ n5_ n6_ n7_ n8_ n9_ n10_ n11_ n12_ n13_ n14_; clear hb hbox hg; have hnb153 := NB286_264.out; have hnc153 := NB264_286.out; have hnb154 := NB286_265.out; have hnc154 := NB265_286.out; have hnb155 := NB286_287.out; have hnc155 := NB287_286.out; have hcz156_0 : w152.cell? ⟨gb286, 0, none⟩ = some (.int .u64 0) := (blk_cell BK286.out 0).trans rfl; have hcz156_1 : w152.cell? ⟨gb286, 1, none⟩ = some (.int .u64 0) := (blk_cell BK286.out 1).trans rfl; have hfz156_0 := blk_frozen BK286.out 0; have hfz156_1 := blk_frozen BK286.out 1; have hnb157 := NB287_264.out; have hnc157 := NB264_287.out; have hnb158 := NB287_265.out; have hnc158 := NB265_287.out; have hcz159_0 : w152.cell? ⟨gb287, 0, none⟩ = some (.int .u64 0) := (blk_cell BK287.out 0).trans rfl; have hcz159_1 : w152.cell? ⟨gb287, 1, none⟩ = some (.int .u64 0) := (blk_cell BK287.out 1).trans rfl; have hfz159_0 := blk_frozen BK287.out 0; have hfz159_1 := blk_frozen BK287.out 1) | ((with_reducible refine gate_callee (f := 37) rfl ?_); refine goesL_ (some 74) rfl rfl Try.func37 (by kernel_rfl) rfl #[.int .u64 t267] rfl (by (try simp only [List.map_toArray, List.map_cons, List.map_nil]); first | done | rfl | (simp only [List.length_drop, List.length_take]; rfl)) ?_; (with_reducible refine (span_Const.calls t267 t288 t289 _ A29.out).mono ?_); rintro e w160 ⟨rfl, hb⟩; refine ⟨_, rfl, ?_⟩; have n0_ := Aside0.mk (Kd.R_below (by (with_reducible repeat (first | apply Kd.R_alloc | apply Kd.R_drewN | apply Kd.R_drew)); exact (Kd.R_mono (Kd.R_mono (Kd.R_far (p := ⟨gb287, 1, none⟩) (Kd.R_far (p := ⟨gb287, 0, none⟩) (Kd.R_far (p := ⟨gb286, 1, none⟩) (Kd.R_far (p := ⟨gb286, 0, none⟩) (Kd.R_types (Kd.R_types HO_35.out BK286.out (by decide)) BK287.out (by decide)) (fun _ hk => hk.1.2) (.int .u64 t280)) (fun _ hk => hk.1.2) (.int .u64 t281)) (fun _ hk => hk.2) (.int .u64 t282)) (fun _ hk => hk.2) (.int .u64 t283)) (fun _ h_ => h_.1)) (fun _ h_ => h_.1))) hb); have n1_ := Aside0.mk (Kd.R_below (by (with_reducible repeat (first | apply Kd.R_alloc | apply Kd.R_drewN | apply Kd.R_drew)); exact (Kd.R_mono (Kd.R_mono (Kd.R_far (p := ⟨gb287, 1, none⟩) (Kd.R_far (p := ⟨gb287, 0, none⟩) (Kd.R_far (p := ⟨gb286, 1, none⟩) (Kd.R_far (p := ⟨gb286, 0, none⟩) (Kd.R_types (Kd.R_types HO_50.out BK286.out (by decide)) BK287.out (by decide)) (fun _ hk => hk.1.2) (.int .u64 t280)) (fun _ hk => hk.1.2) (.int .u64 t281)) (fun _ hk => hk.2) (.int .u64 t282)) (fun _ hk => hk.2) (.int .u64 t283)) (fun _ h_ => h_.1)) (fun _ h_ => h_.1))) hb); have n2_ := Aside0.mk (blk_below (g := gb264) (o := .cells #[.int .u64 a1_0, .int .u64 a1_1, .int .u64 a1_2, .int .u64 a1_3] 63 (0, 0)) (by (with_reducible repeat (first | apply bN | apply bD | apply bA)); refine blk_far ?_ NB264_287.out _; (with_reducible repeat (first | apply bN | apply bD | apply bA)); refine blk_far ?_ NB264_287.out _; (with_reducible repeat (first | apply bN | apply bD | apply bA)); refine blk_far ?_ NB264_286.out _; (with_reducible repeat (first | apply bN | apply bD | apply bA)); refine blk_far ?_ NB264_286.out _; (with_reducible repeat (first | apply bN | apply bD | apply bA)); exact BK264.out) hb); have n3_ := Aside0.mk (blk_below (g := gb265) (o := .cells #[.int .u64 a2_0, .int .u64 a2_1] 26 (0, 0)) (by (with_reducible repeat (first | apply bN | apply bD | apply bA)); refine blk_far ?_ NB265_287.out _; (with_reducible repeat (first | apply bN | apply bD | apply bA)); refine blk_far ?_ NB265_287.out _; (with_reducible repeat (first | apply bN | apply bD | apply bA)); refine blk_far ?_ NB265_286.out _; (with_reducible repeat (first | apply bN | apply bD | apply bA)); refine blk_far ?_ NB265_286.out _; (with_reducible repeat (first | apply bN | apply bD | apply bA)); exact BK265.out) hb); have n4_ := Aside0.mk (blk_below (g := gb286) (o := .cells #[.int .u64 t280, .int .u64 t281] 58 (0, 0)) (by (with_reducible repeat (first | apply bN | apply bD | apply bA)); refine blk_far ?_ NB286_287.out _; (with_reducible repeat (first | apply bN | apply bD | apply bA)); refine blk_far ?_ NB286_287.out _; (with_reducible repeat (first | apply bN | apply bD | apply bA)); refine blk_put (cs := #[.int .u64 t280, .int .u64 0]) ?_ 1 _ rfl; (with_reducible repeat (first | apply bN | apply bD | apply bA)); refine blk_put (cs := #[.int .u64 0, .int .u64 0]) ?_ 0 _ rfl; (with_reducible repeat (first | apply bN | apply bD | apply bA)); exact BK286.out) hb); have n5_ := Aside0.mk (blk_below (g := gb287) (o := .cells #[.int .u64 t282, .int .u64 t283] 58 (0, 0)) (by (with_reducible repeat (first | apply bN | apply bD | apply bA)); refine blk_put (cs := #[.int .u64 t282, .int .u64 0]) ?_ 1 _ rfl; (with_reducible repeat (first | apply bN | apply bD | apply bA)); refine blk_put (cs := #[.int .u64 0, .int .u64 0]) ?_ 0 _ rfl; (with_reducible repeat (first | apply bN | apply bD | apply bA)); refine blk_far ?_ NB287_286.out _; (with_reducible repeat (first | apply bN | apply bD | apply bA)); refine blk_far ?_ NB287_286.out _; (with_reducible repeat (first | apply bN | apply bD | apply bA)); exact BK287.out) hb); have n6_ := Aside0.mk (below_step (by repeat (first | (with_reducible first | exact HB.out | apply lA | apply lN | apply lD | refine lS ?_ ‹_›) | exact HB.out)) hb); clear HO_35; clear HO_50; clear BK264; clear BK265; clear BK286; clear BK287; clear HB; have HO_35 := n0_; have HO_50 := n1_; have BK264 := n2_; have BK265 := n3_; have BK286 := n4_; have BK287 := n5_; have HB := n6_; clear n0_ n1_ n2_ n3_ n4_ n5_ n6_; (try clear hb); (try clear hb2); (try clear hk); (try clear hi)) | ((with_reducible refine gate_callee (f := 37) rfl ?_); refine goesL_ (some 76) rfl rfl Try.func37 (by kernel_rfl) rfl #[.int .u64 t268] rfl (by (try simp only [List.map_toArray, List.map_cons, List.map_nil]); first | done | rfl | (simp only [List.length_drop, List.length_take]; rfl)) ?_; (with_reducible refine (span_Const.calls t268 t290 t291 _ A30.out).mono ?_); rintro e w161 ⟨rfl, hb⟩; refine ⟨_, rfl, ?_⟩; have n0_ := Aside0.mk (Kd.R_below (by (with_reducible repeat (first | apply Kd.R_alloc | apply Kd.R_drewN | apply Kd.R_drew)); exact HO_35.out) hb); have n1_ := Aside0.mk (Kd.R_below (by (with_reducible repeat (first | apply Kd.R_alloc | apply Kd.R_drewN | apply Kd.R_drew)); exact HO_50.out) hb); have n2_ := Aside0.mk (blk_below (g := gb264) (o := .cells #[.int .u64 a1_0, .int .u64 a1_1, .int .u64 a1_2, .int .u64 a1_3] 63 (0, 0)) (by (with_reducible repeat (first | apply bN | apply bD | apply bA)); exact BK264.out) hb); have n3_ := Aside0.mk (blk_below (g := gb265) (o := .cells #[.int .u64 a2_0, .int .u64 a2_1] 26 (0, 0)) (by (with_reducible repeat (first | apply bN | apply bD | apply bA)); exact BK265.out) hb); have n4_ := Aside0.mk (blk_below (g := gb286) (o := .cells #[.int .u64 t280, .int .u64 t281] 58 (0, 0)) (by (with_reducible repeat (first | apply bN | apply bD | apply bA)); exact BK286.out) hb); have n5_ := Aside0.mk (blk_below (g := gb287) (o := .cells #[.int .u64 t282, .int .u64 t283] 58 (0, 0)) (by (with_reducible repeat (first | apply bN | apply bD | apply bA)); exact BK287.out) hb); have n6_ := Aside0.mk (below_step (by repeat (first | (with_reducible first | exact HB.out | apply lA | apply lN | apply lD | refine lS ?_ ‹_›) | exact HB.out)) hb); clear HO_35; clear HO_50; clear BK264; clear BK265; clear BK286; clear BK287; clear HB; have HO_35 := n0_; have HO_50 := n1_; have BK264 := n2_; have BK265 := n3_; have BK286 := n4_; have BK287 := n5_; have HB := n6_; clear n0_ n1_ n2_ n3_ n4_ n5_ n6_; (try clear hb); (try clear hb2); (try clear hk); (try clear hi)) | ((with_reducible refine gate_callee (f := 36) rfl ?_); refine goesL_ (some 77) rfl rfl Try.func36 (by kernel_rfl) rfl #[.int .i64 a0, .bool (rdOf false y269 x37_1), .bool (rdOf false y276 x52_2), .agg #[.int .u64 t288, .int .u64 t289], .agg #[.int .u64 t290, .int .u64 t291]] rfl (by (try simp only [List.map_toArray, List.map_cons, List.map_nil]); first | done | rfl | (simp only [List.length_drop, List.length_take]; rfl)) ?_; (with_reducible refine (span_Narrow.calls k2 a0 (rdOf false y269 x37_1) (rdOf false y276 x52_2) t288 t289 t290 t291 t292 t293 t294 t295 t296 t297 _ A31.out).mono ?_); rintro e w162 ⟨rfl, hb⟩; refine ⟨_, rfl, ?_⟩; have n0_ := Aside0.mk (Kd.R_below (by (with_reducible repeat (first | apply Kd.R_alloc | apply Kd.R_drewN | apply Kd.R_drew)); exact HO_35.out) hb); have n1_ := Aside0.mk (Kd.R_below (by (with_reducible repeat (first | apply Kd.R_alloc | apply Kd.R_drewN | apply Kd.R_drew)); exact HO_50.out) hb); have n2_ := Aside0.mk (blk_below (g := gb264) (o := .cells #[.int .u64 a1_0, .int .u64 a1_1, .int .u64 a1_2, .int .u64 a1_3] 63 (0, 0)) (by (with_reducible repeat (first | apply bN | apply bD | apply bA)); exact BK264.out) hb); have n3_ := Aside0.mk (blk_below (g := gb265) (o := .cells #[.int .u64 a2_0, .int .u64 a2_1] 26 (0, 0)) (by (with_reducible repeat (first | apply bN | apply bD | apply bA)); exact BK265.out) hb); have n4_ := Aside0.mk (blk_below (g := gb286) (o := .cells #[.int .u64 t280, .int .u64 t281] 58 (0, 0)) (by (with_reducible repeat (first | apply bN | apply bD | apply bA)); exact BK286.out) hb); have n5_ := Aside0.mk (blk_below (g := gb287) (o := .cells #[.int .u64 t282, .int .u64 t283] 58 (0, 0)) (by (with_reducible repeat (first | apply bN | apply bD | apply bA)); exact BK287.out) hb); have n6_ := Aside0.mk (below_step (by repeat (first | (with_reducible first | exact HB.out | apply lA | apply lN | apply lD | refine lS ?_ ‹_›) | exact HB.out)) hb); clear HO_35; clear HO_50; clear BK264; clear BK265; clear BK286; clear BK287; clear HB; have HO_35 := n0_; have HO_50 := n1_; have BK264 := n2_; have BK265 := n3_; have BK286 := n4_; have BK287 := n5_; have HB := n6_; clear n0_ n1_ n2_ n3_ n4_ n5_ n6_; (try clear hb); (try clear hb2); (try clear hk); (try clear hi)) | ((with_reducible refine gate_dst (N := 19) rfl ?_); refine box_event ?hg (N := 19) ?hd (cs := #[.int .u64 0, .int .u64 0]) (t := 58) ?hr ?_; (case hd => rfl); (case hg => rfl); (case hr => first | (go_simp; done) | (go_simp; rfl)); intro gb298 hg w163 hbox hb; have n0_ := Aside0.mk (Kd.R_below (by (with_reducible repeat (first | apply Kd.R_alloc | apply Kd.R_drewN | apply Kd.R_drew)); exact HO_35.out) hb); have n1_ := Aside0.mk (Kd.R_below (by (with_reducible repeat (first | apply Kd.R_alloc | apply Kd.R_drewN | apply Kd.R_drew)); exact HO_50.out) hb); have n2_ := Aside0.mk (blk_below (g := gb264) (o := .cells #[.int .u64 a1_0, .int .u64 a1_1, .int .u64 a1_2, .int .u64 a1_3] 63 (0, 0)) (by (with_reducible repeat (first | apply bN | apply bD | apply bA)); exact BK264.out) hb); have n3_ := Aside0.mk (blk_below (g := gb265) (o := .cells #[.int .u64 a2_0, .int .u64 a2_1] 26 (0, 0)) (by (with_reducible repeat (first | apply bN | apply bD | apply bA)); exact BK265.out) hb); have n4_ := Aside0.mk (blk_below (g := gb286) (o := .cells #[.int .u64 t280, .int .u64 t281] 58 (0, 0)) (by (with_reducible repeat (first | apply bN | apply bD | apply bA)); exact BK286.out) hb); have n5_ := Aside0.mk (blk_below (g := gb287) (o := .cells #[.int .u64 t282, .int .u64 t283] 58 (0, 0)) (by (with_reducible repeat (first | apply bN | apply bD | apply bA)); exact BK287.out) hb); have n6_ := Aside0.mk (below_step (by repeat (first | (with_reducible first | exact HB.out | apply lA | apply lN | apply lD | refine lS ?_ ‹_›) | exact HB.out)) hb); have n7_ := Aside0.mk (hbox); have n8_ := Aside0.mk ((by rw [hg]; exact (below_size (by repeat (first | (with_reducible first | exact HB.out | apply lA | apply lN | apply lD | refine lS ?_ ‹_›) | exact HB.out))) : w.heap.size ≤ gb298)); have n9_ := n8_; have n10_ := Aside0.mk ((by rw [hg]; exact Nat.ne_of_lt (blk_lt (g := gb264) (o := .cells #[.int .u64 a1_0, .int .u64 a1_1, .int .u64 a1_2, .int .u64 a1_3] 63 (0, 0)) (by (with_reducible repeat (first | apply bN | apply bD | apply bA)); exact BK264.out)) : gb264 ≠ gb298)); have n11_ := sy n10_; have n12_ := Aside0.mk ((by rw [hg]; exact Nat.ne_of_lt (blk_lt (g := gb265) (o := .cells #[.int .u64 a2_0, .int .u64 a2_1] 26 (0, 0)) (by (with_reducible repeat (first | apply bN | apply bD | apply bA)); exact BK265.out)) : gb265 ≠ gb298)); have n13_ := sy n12_; have n14_ := Aside0.mk ((by rw [hg]; exact Nat.ne_of_lt (blk_lt (g := gb286) (o := .cells #[.int .u64 t280, .int .u64 t281] 58 (0, 0)) (by (with_reducible repeat (first | apply bN | apply bD | apply bA)); exact BK286.out)) : gb286 ≠ gb298)); have n15_ := sy n14_; have n16_ := Aside0.mk ((by rw [hg]; exact Nat.ne_of_lt (blk_lt (g := gb287) (o := .cells #[.int .u64 t282, .int .u64 t283] 58 (0, 0)) (by (with_reducible repeat (first | apply bN | apply bD | apply bA)); exact BK287.out)) : gb287 ≠ gb298)); have n17_ := sy n16_; clear HO_35; clear HO_50; clear BK264; clear BK265; clear BK286; clear BK287; clear HB; have HO_35 := n0_; have HO_50 := n1_; have BK264 := n2_; have BK265 := n3_; have BK286 := n4_; have BK287 := n5_; have HB := n6_; have BK298 := n7_; have GW298 := n8_; have GE298 := n9_; have NB264_298 := n10_; have NB298_264 := n11_; have NB265_298 := n12_; have NB298_265 := n13_; have NB286_298 := n14_; have NB298_286 := n15_; have NB287_298 := n16_; have NB298_287 := n17_; clear n0_ n1_ n2_ n3_ n4_ n5_ n6_ n7_ n8_ n9_ n10_ n11_ n12_ n13_ n14_ n15_ n16_ n17_; clear hb hbox hg) | ((with_reducible refine gate_dst (N := 20) rfl ?_); refine box_event ?hg (N := 20) ?hd (cs := #[.int .u64 0, .int .u64 0]) (t := 58) ?hr ?_; (case hd => rfl); (case hg => rfl); (case hr => first | (go_simp; done) | (go_simp; rfl)); intro gb299 hg w164 hbox hb; have n0_ := Aside0.mk (Kd.R_below (by (with_reducible repeat (first | apply Kd.R_alloc | apply Kd.R_drewN | apply Kd.R_drew)); exact HO_35.out) hb); have n1_ := Aside0.mk (Kd.R_below (by (with_reducible repeat (first | apply Kd.R_alloc | apply Kd.R_drewN | apply Kd.R_drew)); exact HO_50.out) hb); have n2_ := Aside0.mk (blk_below (g := gb264) (o := .cells #[.int .u64 a1_0, .int .u64 a1_1, .int .u64 a1_2, .int .u64 a1_3] 63 (0, 0)) (by (with_reducible repeat (first | apply bN | apply bD | apply bA)); exact BK264.out) hb); have n3_ := Aside0.mk (blk_below (g := gb265) (o := .cells #[.int .u64 a2_0, .int .u64 a2_1] 26 (0, 0)) (by (with_reducible repeat (first | apply bN | apply bD | apply bA)); exact BK265.out) hb); have n4_ := Aside0.mk (blk_below (g := gb286) (o := .cells #[.int .u64 t280, .int .u64 t281] 58 (0, 0)) (by (with_reducible repeat (first | apply bN | apply bD | apply bA)); exact BK286.out) hb); have n5_ := Aside0.mk (blk_below (g := gb287) (o := .cells #[.int .u64 t282, .int .u64 t283] 58 (0, 0)) (by (with_reducible repeat (first | apply bN | apply bD | apply bA)); exact BK287.out) hb); have n6_ := Aside0.mk (blk_below (g := gb298) (o := .cells #[.int .u64 0, .int .u64 0] 58 (0, 0)) (by (with_reducible repeat (first | apply bN | apply bD | apply bA)); exact BK298.out) hb); have n7_ := Aside0.mk (below_step (by repeat (first | (with_reducible first | exact HB.out | apply lA | apply lN | apply lD | refine lS ?_ ‹_›) | exact HB.out)) hb); have n8_ := Aside0.mk (hbox); have n9_ := Aside0.mk ((by rw [hg]; exact (below_size (by repeat (first | (with_reducible first | exact HB.out | apply lA | apply lN | apply lD | refine lS ?_ ‹_›) | exact HB.out))) : w.heap.size ≤ gb299)); have n10_ := n9_; have n11_ := Aside0.mk ((by rw [hg]; exact Nat.ne_of_lt (blk_lt (g := gb264) (o := .cells #[.int .u64 a1_0, .int .u64 a1_1, .int .u64 a1_2, .int .u64 a1_3] 63 (0, 0)) (by (with_reducible repeat (first | apply bN | apply bD | apply bA)); exact BK264.out)) : gb264 ≠ gb299)); have n12_ := sy n11_; have n13_ := Aside0.mk ((by rw [hg]; exact Nat.ne_of_lt (blk_lt (g := gb265) (o := .cells #[.int .u64 a2_0, .int .u64 a2_1] 26 (0, 0)) (by (with_reducible repeat (first | apply bN | apply bD | apply bA)); exact BK265.out)) : gb265 ≠ gb299)); have n14_ := sy n13_; have n15_ := Aside0.mk ((by rw [hg]; exact Nat.ne_of_lt (blk_lt (g := gb286) (o := .cells #[.int .u64 t280, .int .u64 t281] 58 (0, 0)) (by (with_reducible repeat (first | apply bN | apply bD | apply bA)); exact BK286.out)) : gb286 ≠ gb299)); have n16_ := sy n15_; have n17_ := Aside0.mk ((by rw [hg]; exact Nat.ne_of_lt (blk_lt (g := gb287) (o := .cells #[.int .u64 t282, .int .u64 t283] 58 (0, 0)) (by (with_reducible repeat (first | apply bN | apply bD | apply bA)); exact BK287.out)) : gb287 ≠ gb299)); have n18_ := sy n17_; have n19_ := Aside0.mk ((by rw [hg]; exact Nat.ne_of_lt (blk_lt (g := gb298) (o := .cells #[.int .u64 0, .int .u64 0] 58 (0, 0)) (by (with_reducible repeat (first | apply bN | apply bD | apply bA)); exact BK298.out)) : gb298 ≠ gb299)); have n20_ := sy n19_; clear HO_35; clear HO_50; clear BK264; clear BK265; clear BK286; clear BK287; clear BK298; clear HB; have HO_35 := n0_; have HO_50 := n1_; have BK264 := n2_; have BK265 := n3_; have BK286 := n4_; have BK287 := n5_; have BK298 := n6_; have HB := n7_; have BK299 := n8_; have GW299 := n9_; have GE299 := n10_; have NB264_299 := n11_; have NB299_264 := n12_; have NB265_299 := n13_; have NB299_265 := n14_; have NB286_299 := n15_; have NB299_286 := n16_; have NB287_299 := n17_; have NB299_287 := n18_; have NB298_299 := n19_; have NB299_298 := n20_; clear n0_ n1_ n2_ n3_ n4_ n5_ n6_ n7_ n8_ n9_ n10_ n11_ n12_ n13_ n14_ n15_ n16_ n17_ n18_ n19_ n20_; clear hb hbox hg; have hnb165 := NB298_264.out; have hnc165 := NB264_298.out; have hnb166 := NB298_265.out; have hnc166 := NB265_298.out; have hnb167 := NB298_286.out; have hnc167 := NB286_298.out; have hnb168 := NB298_287.out; have hnc168 := NB287_298.out; have hnb169 := NB298_299.out; have hnc169 := NB299_298.out; have hcz170_0 : w164.cell? ⟨gb298, 0, none⟩ = some (.int .u64 0) := (blk_cell BK298.out 0).trans rfl; have hcz170_1 : w164.cell? ⟨gb298, 1, none⟩ = some (.int .u64 0) := (blk_cell BK298.out 1).trans rfl; have hfz170_0 := blk_frozen BK298.out 0; have hfz170_1 := blk_frozen BK298.out 1; have hnb171 := NB299_264.out; have hnc171 := NB264_299.out; have hnb172 := NB299_265.out; have hnc172 := NB265_299.out; have hnb173 := NB299_286.out; have hnc173 := NB286_299.out; have hnb174 := NB299_287.out; have hnc174 := NB287_299.out; have hcz175_0 : w164.cell? ⟨gb299, 0, none⟩ = some (.int .u64 0) := (blk_cell BK299.out 0).trans rfl; have hcz175_1 : w164.cell? ⟨gb299, 1, none⟩ = some (.int .u64 0) := (blk_cell BK299.out 1).trans rfl; have hfz175_0 := blk_frozen BK299.out 0; have hfz175_1 := blk_frozen BK299.out 1; have hcz176_0 : w164.cell? ⟨gb286, 0, none⟩ = some (.int .u64 t280) := (blk_cell BK286.out 0).trans rfl; have hcz176_1 : w164.cell? ⟨gb286, 1, none⟩ = some (.int .u64 t281) := (blk_cell BK286.out 1).trans rfl; have hfz176_0 := blk_frozen BK286.out 0; have hfz176_1 := blk_frozen BK286.out 1; have hcz177_0 : w164.cell? ⟨gb287, 0, none⟩ = some (.int .u64 t282) := (blk_cell BK287.out 0).trans rfl; have hcz177_1 : w164.cell? ⟨gb287, 1, none⟩ = some (.int .u64 t283) := (blk_cell BK287.out 1).trans rfl; have hfz177_0 := blk_frozen BK287.out 0; have hfz177_1 := blk_frozen BK287.out 1))
                  go_roundg k2
                  case measure => have := HK1.out; have := HK2.out; omega
                  case rel => exact ⟨(wrap64 (x52_2 + 1)), (by first | rfl | (simp; done) | (simp [*]; done)), H', ⟨by have := HK1.out; have := HK2.out; omega⟩, ⟨by (with_reducible repeat (first | apply Kd.R_alloc | apply Kd.R_drewN | apply Kd.R_drew)); exact Kd.R_mono (Kd.R_far (p := ⟨gb299, 1, none⟩) (Kd.R_far (p := ⟨gb299, 0, none⟩) (Kd.R_far (p := ⟨gb298, 1, none⟩) (Kd.R_far (p := ⟨gb298, 0, none⟩) (Kd.R_types (Kd.R_types HO_35.out BK298.out (by decide)) BK299.out (by decide)) (fun _ hk => hk.1.2) (.int .u64 t292)) (fun _ hk => hk.1.2) (.int .u64 t293)) (fun _ hk => hk.2) (.int .u64 t294)) (fun _ hk => hk.2) (.int .u64 t295)) (fun _ hk => hk.1.1)⟩, ⟨by (with_reducible repeat (first | apply Kd.R_alloc | apply Kd.R_drewN | apply Kd.R_drew)); exact Kd.R_mono (Kd.R_far (p := ⟨gb299, 1, none⟩) (Kd.R_far (p := ⟨gb299, 0, none⟩) (Kd.R_far (p := ⟨gb298, 1, none⟩) (Kd.R_far (p := ⟨gb298, 0, none⟩) (Kd.R_types (Kd.R_types HO_50.out BK298.out (by decide)) BK299.out (by decide)) (fun _ hk => hk.1.2) (.int .u64 t292)) (fun _ hk => hk.1.2) (.int .u64 t293)) (fun _ hk => hk.2) (.int .u64 t294)) (fun _ hk => hk.2) (.int .u64 t295)) (fun _ hk => hk.1.1)⟩, ⟨by (with_reducible repeat (first | apply bN | apply bD | apply bA)); refine blk_far ?_ NB264_299.out _; (with_reducible repeat (first | apply bN | apply bD | apply bA)); refine blk_far ?_ NB264_299.out _; (with_reducible repeat (first | apply bN | apply bD | apply bA)); refine blk_far ?_ NB264_298.out _; (with_reducible repeat (first | apply bN | apply bD | apply bA)); refine blk_far ?_ NB264_298.out _; (with_reducible repeat (first | apply bN | apply bD | apply bA)); exact BK264.out⟩, ⟨by (with_reducible repeat (first | apply bN | apply bD | apply bA)); refine blk_far ?_ NB265_299.out _; (with_reducible repeat (first | apply bN | apply bD | apply bA)); refine blk_far ?_ NB265_299.out _; (with_reducible repeat (first | apply bN | apply bD | apply bA)); refine blk_far ?_ NB265_298.out _; (with_reducible repeat (first | apply bN | apply bD | apply bA)); refine blk_far ?_ NB265_298.out _; (with_reducible repeat (first | apply bN | apply bD | apply bA)); exact BK265.out⟩, ⟨by repeat (first | (with_reducible first | exact HB.out | apply lA | apply lN | apply lD | refine lS ?_ ‹_›) | exact HB.out)⟩⟩
              ·
               rw [if_neg c144] at H
               have c144b0 : (t297 == 2) = false := beq_eq_false_iff_ne.mpr c144; have c144b1 : (t297 != 2) = true := bne_iff_ne.mpr c144
               exact absurd (H.trans (congrArg some hr_.out)) (by simp)
             ·
              rw [if_neg c143] at H
              have c143b0 : (t285 == 2) = false := beq_eq_false_iff_ne.mpr c143; have c143b1 : (t285 != 2) = true := bne_iff_ne.mpr c143
              exact absurd (H.trans (congrArg some hr_.out)) (by simp)
           ·
            rw [if_neg c27] at H
            exact absurd H (by simp)
          ·
           rw [if_neg c26] at H
           exact absurd H (by simp)
         ·
          rw [if_neg c25] at H
          have c25b0 : decide (x52_2 < (y276.length : Int)) = false := decide_eq_false c25; clear c25; have H' := Aside0.mk H; clear H
          go_wp2
          go_roundg k2
          case measure => have := HK1.out; have := HK2.out; omega
          case rel => exact ⟨(wrap64 (x37_1 + 1)), (by first | rfl | (simp; done) | (simp [*]; done)), H', ⟨by have := HK1.out; have := HK2.out; omega⟩, ⟨by (with_reducible repeat (first | apply Kd.R_alloc | apply Kd.R_drewN | apply Kd.R_drew)); exact Kd.R_mono HO_35.out (fun _ hk => trivial)⟩, ⟨by (with_reducible repeat (first | apply bN | apply bD | apply bA)); exact BK264.out⟩, ⟨by (with_reducible repeat (first | apply bN | apply bD | apply bA)); exact BK265.out⟩, ⟨by repeat (first | (with_reducible first | exact HB.out | apply lA | apply lN | apply lD | refine lS ?_ ‹_›) | exact HB.out)⟩⟩
      ·
       rw [if_neg c19] at H
       exact absurd H (by simp)
     ·
      rw [if_neg c18] at H
      exact absurd H (by simp)
    ·
     rw [if_neg c17] at H
     have c17b0 : decide (x37_1 < (y269.length : Int)) = false := decide_eq_false c17; clear c17
     obtain rfl := Option.some.inj H
     go_wp2
     go_ret
     exact ⟨by first | rfl | (simp [errW_none, errW_some] <;> rfl) | (simp [*, errW_none, errW_some] <;> rfl), by repeat (first | (with_reducible first | exact HB.out | apply lA | apply lN | apply lD | refine lS ?_ ‹_›) | exact HB.out)⟩
 ·
  replace c5 := Bool.eq_false_iff.mpr c5
  subst c5
  have H1 : (some false) = some r := by rw [if_neg (show ¬ (false = true) by decide)] at H; exact H
  clear H; have H := H1; clear H1
  exact absurd (H.trans (congrArg some hr_.out)) (by simp)
end Go.Proofs.Ytladlljnpmpdpaa.PSpanNarrow
