-- Written by a program of this session (a variant of the print), for this claim. Lean checks it.
import Derived.Test.YtladlljnpmpdpaaPTnumSetsx0
import Derived.Test.YtladlljnpmpdpaaPTnumSetsx1
import Derived.Test.YtladlljnpmpdpaaPTnumSetsx2
import Derived.Test.YtladlljnpmpdpaaPTnumSetsx5
namespace Go.Proofs.Ytladlljnpmpdpaa.PTnumSets
open Go.RowKit Go.Proofs.YtladlljnpmpdpaaW.PrintWords Go.Proofs.YtladlljnpmpdpaaW.PrintLast Go.Proofs.YtladlljnpmpdpaaW.PrintMore
attribute [local go_sem] max2_int min2_int max_two min_two max_three min_three max_four min_four   -- for this text's walks alone
attribute [local go_sem high] Go.Proofs.Ytladlljnpmpdpaa.NotLaw.not_u64 Go.Proofs.Ytladlljnpmpdpaa.NotLaw.not_u32 Go.Proofs.Ytladlljnpmpdpaa.NotLaw.not_u16 Go.Proofs.Ytladlljnpmpdpaa.NotLaw.not_u8
set_option linter.unusedVariables false
set_option linter.unusedSimpArgs false

attribute [local go_sem high] eqA24
/-! ### posternlaw14_TnumSets: function 7 -/
mutual
def posternlaw14_TnumSets.j0 : Nat → Int → Int → Int → Bool → Int → Int → Int → Int → Option (Bool)
 | 0, _, _, _, _, _, _, _, _ => none
 | k + 1, x2, x7, x8, x54, x212000, x212001, x213000, x213001 => if x54 = true then (some false) else (if (Go.bits .andNot .u64 x212001 x213001) = 0 then ((posternref14_Member.f x213000 x213001 x7).bind fun t227 => (posternlaw14_TnumSets.j1 k x2 x7 x8 (t227 == x7) x212000 x212001 x213000 x213001)) else (posternlaw14_TnumSets.j1 k x2 x7 x8 false x212000 x212001 x213000 x213001))
def posternlaw14_TnumSets.j1 : Nat → Int → Int → Int → Bool → Int → Int → Int → Int → Option (Bool)
 | 0, _, _, _, _, _, _, _, _ => none
 | k + 1, x2, x7, x8, x9, x212000, x212001, x213000, x213001 => (tnum_Join.f x212000 x212001 x213000 x213001).bind fun bt228 => ((tnum_Meet.f x212000 x212001 x213000 x213001).bind fun bt231 => ((tnum_In.f x212000 x212001 x213000 x213001).bind fun t235 => (if (t235 != x9) = true then (posternlaw14_TnumSets.j2 k x2 bt231.2.2 true x212000 x212001 x213000 x213001 bt228.1 bt228.2 bt231.1 bt231.2.1) else ((tnum_In.f x212000 x212001 bt228.1 bt228.2).bind fun t236 => (if t236 = true then ((tnum_In.f x213000 x213001 bt228.1 bt228.2).bind fun t237 => (if t237 = true then ((posternlaw14_good.f bt228.1 bt228.2).bind fun t238 => (if t238 = true then ((posternlaw14_good.f bt231.1 bt231.2.1).bind fun t239 => (if t239 = true then ((tnum_Has.f bt228.1 bt228.2 x7).bind fun t240 => (if t240 = true then ((tnum_Has.f bt228.1 bt228.2 x8).bind fun t241 => (posternlaw14_TnumSets.j2 k x2 bt231.2.2 (!t241) x212000 x212001 x213000 x213001 bt228.1 bt228.2 bt231.1 bt231.2.1)) else (posternlaw14_TnumSets.j2 k x2 bt231.2.2 true x212000 x212001 x213000 x213001 bt228.1 bt228.2 bt231.1 bt231.2.1))) else (posternlaw14_TnumSets.j2 k x2 bt231.2.2 true x212000 x212001 x213000 x213001 bt228.1 bt228.2 bt231.1 bt231.2.1))) else (posternlaw14_TnumSets.j2 k x2 bt231.2.2 true x212000 x212001 x213000 x213001 bt228.1 bt228.2 bt231.1 bt231.2.1))) else (posternlaw14_TnumSets.j2 k x2 bt231.2.2 true x212000 x212001 x213000 x213001 bt228.1 bt228.2 bt231.1 bt231.2.1))) else (posternlaw14_TnumSets.j2 k x2 bt231.2.2 true x212000 x212001 x213000 x213001 bt228.1 bt228.2 bt231.1 bt231.2.1))))))
def posternlaw14_TnumSets.j2 : Nat → Int → Bool → Bool → Int → Int → Int → Int → Int → Int → Int → Int → Option (Bool)
 | 0, _, _, _, _, _, _, _, _, _, _, _ => none
 | k + 1, x2, x12, x115, x212000, x212001, x213000, x213001, x231000, x231001, x235000, x235001 => if x115 = true then (some false) else ((posternref14_Member.f x212000 x212001 0).bind fun t242 => ((posternref14_Member.f x212000 x212001 18446744073709551615).bind fun t243 => ((posternref14_Member.f x213000 x213001 0).bind fun t244 => ((posternref14_Member.f x213000 x213001 18446744073709551615).bind fun t245 => ((posternref14_Best.f k (([t242, t243, t244, t245] : List Int))).bind fun bt249 => (if (!(x231000 == bt249.1) || (!(x231001 == bt249.2))) = true then (some false) else ((posternref14_Member.f x212000 x212001 0).bind fun t251 => ((posternref14_Member.f x213000 x213001 0).bind fun t252 => (if (x12 != ((Go.bits .andNot .u64 (Go.bits .andNot .u64 (Go.bits .xor .u64 t251 t252) x212001) x213001) == 0)) = true then (posternlaw14_TnumSets.j3 k x2 x12 true x212000 x212001 x213000 x213001 x235000 x235001) else (if x12 = true then (posternlaw14_TnumSets.j3 k x2 x12 false x212000 x212001 x213000 x213001 x235000 x235001) else (posternlaw14_TnumSets.j3 k x2 x12 (!(x235000 == 0) || (!(x235001 == 0))) x212000 x212001 x213000 x213001 x235000 x235001)))))))))))
def posternlaw14_TnumSets.j3 : Nat → Int → Bool → Bool → Int → Int → Int → Int → Int → Int → Option (Bool)
 | 0, _, _, _, _, _, _, _, _, _ => none
 | k + 1, x2, x12, x151, x212000, x212001, x213000, x213001, x235000, x235001 => if x151 = true then (some false) else (if x12 = true then ((tnum_Has.f x235000 x235001 x2).bind fun t253 => ((tnum_Has.f x212000 x212001 x2).bind fun t254 => (if t254 = true then ((tnum_Has.f x213000 x213001 x2).bind fun t255 => (if (t253 == t255) = true then ((tnum_In.f x235000 x235001 x212000 x212001).bind fun t256 => (if t256 = true then ((tnum_In.f x235000 x235001 x213000 x213001).bind fun t257 => (if t257 = true then (some (x235001 == (Go.bits .and .u64 x212001 x213001))) else (some false))) else (some false))) else (some false))) else (if (t253 == false) = true then ((tnum_In.f x235000 x235001 x212000 x212001).bind fun t258 => (if t258 = true then ((tnum_In.f x235000 x235001 x213000 x213001).bind fun t259 => (if t259 = true then (some (x235001 == (Go.bits .and .u64 x212001 x213001))) else (some false))) else (some false))) else (some false))))) else (some true))
end
def posternlaw14_TnumSets.f (k : Nat) (a0_0 : Int) (a0_1 : Int) (a1_0 : Int) (a1_1 : Int) (a2 : Int) : Option (Bool) := (posternlaw14_first.f k).bind fun t213 => (if t213 = true then ((posternref14_Member.f a0_0 a0_1 a2).bind fun t214 => ((posternref14_Member.f a1_0 a1_1 a2).bind fun t215 => ((tnum_Has.f a0_0 a0_1 t214).bind fun t216 => (if t216 = true then ((tnum_Any.f).bind fun bt217 => ((tnum_Has.f bt217.1 bt217.2 a2).bind fun t219 => (if t219 = true then ((tnum_Const.f a2).bind fun bt220 => ((tnum_Has.f bt220.1 bt220.2 a2).bind fun t222 => (if t222 = true then ((tnum_Const.f a2).bind fun bt223 => ((tnum_Has.f bt223.1 bt223.2 (IntKind.u64.wrap (a2 + 1))).bind fun t225 => (if t225 = true then (posternlaw14_TnumSets.j0 k a2 t214 t215 true a0_0 a0_1 a1_0 a1_1) else ((tnum_Has.f a0_0 a0_1 a2).bind fun t226 => (posternlaw14_TnumSets.j0 k a2 t214 t215 (t226 != (t214 == a2)) a0_0 a0_1 a1_0 a1_1))))) else (posternlaw14_TnumSets.j0 k a2 t214 t215 true a0_0 a0_1 a1_0 a1_1)))) else (posternlaw14_TnumSets.j0 k a2 t214 t215 true a0_0 a0_1 a1_0 a1_1)))) else (posternlaw14_TnumSets.j0 k a2 t214 t215 true a0_0 a0_1 a1_0 a1_1))))) else (some false))
theorem posternlaw14_TnumSets.mono_l : ∀ k, (∀ y0 y1 y2 y3 y4 y5 y6 y7, LeO (posternlaw14_TnumSets.j0 k y0 y1 y2 y3 y4 y5 y6 y7) (posternlaw14_TnumSets.j0 (k + 1) y0 y1 y2 y3 y4 y5 y6 y7)) ∧ (∀ y0 y1 y2 y3 y4 y5 y6 y7, LeO (posternlaw14_TnumSets.j1 k y0 y1 y2 y3 y4 y5 y6 y7) (posternlaw14_TnumSets.j1 (k + 1) y0 y1 y2 y3 y4 y5 y6 y7)) ∧ (∀ y0 y1 y2 y3 y4 y5 y6 y7 y8 y9 y10, LeO (posternlaw14_TnumSets.j2 k y0 y1 y2 y3 y4 y5 y6 y7 y8 y9 y10) (posternlaw14_TnumSets.j2 (k + 1) y0 y1 y2 y3 y4 y5 y6 y7 y8 y9 y10)) ∧ (∀ y0 y1 y2 y3 y4 y5 y6 y7 y8, LeO (posternlaw14_TnumSets.j3 k y0 y1 y2 y3 y4 y5 y6 y7 y8) (posternlaw14_TnumSets.j3 (k + 1) y0 y1 y2 y3 y4 y5 y6 y7 y8))
 | 0 => ⟨fun _ _ _ _ _ _ _ _ r h => by simp [posternlaw14_TnumSets.j0] at h, fun _ _ _ _ _ _ _ _ r h => by simp [posternlaw14_TnumSets.j1] at h, fun _ _ _ _ _ _ _ _ _ _ _ r h => by simp [posternlaw14_TnumSets.j2] at h, fun _ _ _ _ _ _ _ _ _ r h => by simp [posternlaw14_TnumSets.j3] at h⟩
 | k + 1 => by
  obtain ⟨ih0, ih1, ih2, ih3⟩ := posternlaw14_TnumSets.mono_l k
  refine ⟨?_, ?_, ?_, ?_⟩
  ·
   intro y0 y1 y2 y3 y4 y5 y6 y7
   unfold posternlaw14_TnumSets.j0
   repeat' first
   | (with_reducible exact ih0 _ _ _ _ _ _ _ _)
   | (with_reducible exact ih1 _ _ _ _ _ _ _ _)
   | (with_reducible exact ih2 _ _ _ _ _ _ _ _ _ _ _)
   | (with_reducible exact ih3 _ _ _ _ _ _ _ _ _)
   | (with_reducible exact posternlaw14_first.mono _)
   | (with_reducible exact posternref14_Best.mono _ _)
   | (with_reducible exact LeO.refl _)
   | (with_reducible exact LeO.none _)
   | (with_reducible refine LeO.ite ?_ ?_)
   | (with_reducible refine LeO.bind ?_ (fun _ => ?_))
   | exact ih0 _ _ _ _ _ _ _ _
   | exact ih1 _ _ _ _ _ _ _ _
   | exact ih2 _ _ _ _ _ _ _ _ _ _ _
   | exact ih3 _ _ _ _ _ _ _ _ _
   | exact posternlaw14_first.mono _
   | exact posternref14_Best.mono _ _
   | exact LeO.none _
   | refine LeO.ite ?_ ?_
   | refine LeO.bind ?_ (fun _ => ?_)
  ·
   intro y0 y1 y2 y3 y4 y5 y6 y7
   unfold posternlaw14_TnumSets.j1
   repeat' first
   | (with_reducible exact ih0 _ _ _ _ _ _ _ _)
   | (with_reducible exact ih1 _ _ _ _ _ _ _ _)
   | (with_reducible exact ih2 _ _ _ _ _ _ _ _ _ _ _)
   | (with_reducible exact ih3 _ _ _ _ _ _ _ _ _)
   | (with_reducible exact posternlaw14_first.mono _)
   | (with_reducible exact posternref14_Best.mono _ _)
   | (with_reducible exact LeO.refl _)
   | (with_reducible exact LeO.none _)
   | (with_reducible refine LeO.ite ?_ ?_)
   | (with_reducible refine LeO.bind ?_ (fun _ => ?_))
   | exact ih0 _ _ _ _ _ _ _ _
   | exact ih1 _ _ _ _ _ _ _ _
   | exact ih2 _ _ _ _ _ _ _ _ _ _ _
   | exact ih3 _ _ _ _ _ _ _ _ _
   | exact posternlaw14_first.mono _
   | exact posternref14_Best.mono _ _
   | exact LeO.none _
   | refine LeO.ite ?_ ?_
   | refine LeO.bind ?_ (fun _ => ?_)
  ·
   intro y0 y1 y2 y3 y4 y5 y6 y7 y8 y9 y10
   unfold posternlaw14_TnumSets.j2
   repeat' first
   | (with_reducible exact ih0 _ _ _ _ _ _ _ _)
   | (with_reducible exact ih1 _ _ _ _ _ _ _ _)
   | (with_reducible exact ih2 _ _ _ _ _ _ _ _ _ _ _)
   | (with_reducible exact ih3 _ _ _ _ _ _ _ _ _)
   | (with_reducible exact posternlaw14_first.mono _)
   | (with_reducible exact posternref14_Best.mono _ _)
   | (with_reducible exact LeO.refl _)
   | (with_reducible exact LeO.none _)
   | (with_reducible refine LeO.ite ?_ ?_)
   | (with_reducible refine LeO.bind ?_ (fun _ => ?_))
   | exact ih0 _ _ _ _ _ _ _ _
   | exact ih1 _ _ _ _ _ _ _ _
   | exact ih2 _ _ _ _ _ _ _ _ _ _ _
   | exact ih3 _ _ _ _ _ _ _ _ _
   | exact posternlaw14_first.mono _
   | exact posternref14_Best.mono _ _
   | exact LeO.none _
   | refine LeO.ite ?_ ?_
   | refine LeO.bind ?_ (fun _ => ?_)
  ·
   intro y0 y1 y2 y3 y4 y5 y6 y7 y8
   unfold posternlaw14_TnumSets.j3
   repeat' first
   | (with_reducible exact ih0 _ _ _ _ _ _ _ _)
   | (with_reducible exact ih1 _ _ _ _ _ _ _ _)
   | (with_reducible exact ih2 _ _ _ _ _ _ _ _ _ _ _)
   | (with_reducible exact ih3 _ _ _ _ _ _ _ _ _)
   | (with_reducible exact posternlaw14_first.mono _)
   | (with_reducible exact posternref14_Best.mono _ _)
   | (with_reducible exact LeO.refl _)
   | (with_reducible exact LeO.none _)
   | (with_reducible refine LeO.ite ?_ ?_)
   | (with_reducible refine LeO.bind ?_ (fun _ => ?_))
   | exact ih0 _ _ _ _ _ _ _ _
   | exact ih1 _ _ _ _ _ _ _ _
   | exact ih2 _ _ _ _ _ _ _ _ _ _ _
   | exact ih3 _ _ _ _ _ _ _ _ _
   | exact posternlaw14_first.mono _
   | exact posternref14_Best.mono _ _
   | exact LeO.none _
   | refine LeO.ite ?_ ?_
   | refine LeO.bind ?_ (fun _ => ?_)
theorem posternlaw14_TnumSets.mono : ∀ a0 a1 a2 a3 a4 k, LeO (posternlaw14_TnumSets.f k a0 a1 a2 a3 a4) (posternlaw14_TnumSets.f (k + 1) a0 a1 a2 a3 a4) := by
 intro a0 a1 a2 a3 a4 k
 obtain ⟨ih0, ih1, ih2, ih3⟩ := posternlaw14_TnumSets.mono_l k
 unfold posternlaw14_TnumSets.f
 repeat' first
   | (with_reducible exact ih0 _ _ _ _ _ _ _ _)
   | (with_reducible exact ih1 _ _ _ _ _ _ _ _)
   | (with_reducible exact ih2 _ _ _ _ _ _ _ _ _ _ _)
   | (with_reducible exact ih3 _ _ _ _ _ _ _ _ _)
   | (with_reducible exact posternlaw14_first.mono _)
   | (with_reducible exact posternref14_Best.mono _ _)
   | (with_reducible exact LeO.refl _)
   | (with_reducible exact LeO.none _)
   | (with_reducible refine LeO.ite ?_ ?_)
   | (with_reducible refine LeO.bind ?_ (fun _ => ?_))
   | exact ih0 _ _ _ _ _ _ _ _
   | exact ih1 _ _ _ _ _ _ _ _
   | exact ih2 _ _ _ _ _ _ _ _ _ _ _
   | exact ih3 _ _ _ _ _ _ _ _ _
   | exact posternlaw14_first.mono _
   | exact posternref14_Best.mono _ _
   | exact LeO.none _
   | refine LeO.ite ?_ ?_
   | refine LeO.bind ?_ (fun _ => ?_)
def posternlaw14_TnumSets.T3 : Bool × List (List Nat × List Nat) := (true, [([], []), ([], []), ([0, 1], [0, 1]), ([], []), ([], []), ([3, 4, 2], [3, 4]), ([2, 5, 0, 1, 2], [2]), ([5, 6, 0, 1, 2, 3, 4, 5, 6], [5])])
def posternlaw14_TnumSets.B3 : List Nat := [0, 0, 3, 0, 0, 31, 63, 127]
theorem posternlaw14_TnumSets.tab3 : rtab .any (opsOf Try.f7 3) = posternlaw14_TnumSets.T3 := by kernel_rfl
theorem posternlaw14_TnumSets.bits3 : waitsOk posternlaw14_TnumSets.T3.2 posternlaw14_TnumSets.B3 = true := by kernel_rfl
def posternlaw14_TnumSets.T11 : Bool × List (List Nat × List Nat) := (true, [([], []), ([], []), ([1], [1]), ([], []), ([3, 2], [3]), ([], []), ([5, 4], [5]), ([], []), ([7, 6], [7]), ([2, 4, 6, 8], [2, 4, 6, 8]), ([9, 8], [9]), ([0, 10], [0, 10])])
def posternlaw14_TnumSets.B11 : List Nat := [0, 0, 2, 0, 14, 0, 62, 0, 254, 510, 1022, 2047]
theorem posternlaw14_TnumSets.tab11 : rtab .any (opsOf Try.f7 11) = posternlaw14_TnumSets.T11 := by kernel_rfl
theorem posternlaw14_TnumSets.bits11 : waitsOk posternlaw14_TnumSets.T11.2 posternlaw14_TnumSets.B11 = true := by kernel_rfl
def posternlaw14_TnumSets.T13 : Bool × List (List Nat × List Nat) := (true, [([], []), ([0], [0]), ([], []), ([2, 1], [2]), ([1, 3], [1, 3]), ([], []), ([5], [5]), ([4, 6], [4, 6]), ([], []), ([8], [8]), ([7, 9], [7, 9]), ([10], [10]), ([11, 3, 0, 1, 2, 3, 4, 5, 6, 7, 8, 9, 10, 11], [11])])
def posternlaw14_TnumSets.B13 : List Nat := [0, 1, 0, 7, 15, 0, 32, 127, 0, 256, 1023, 2047, 4095]
theorem posternlaw14_TnumSets.tab13 : rtab .any (opsOf Try.f7 13) = posternlaw14_TnumSets.T13 := by kernel_rfl
theorem posternlaw14_TnumSets.bits13 : waitsOk posternlaw14_TnumSets.T13.2 posternlaw14_TnumSets.B13 = true := by kernel_rfl
def posternlaw14_TnumSets.T16 : Bool × List (List Nat × List Nat) := (true, [([], []), ([0], [0]), ([1], [1]), ([2], [2]), ([2], [2]), ([3, 4, 2, 2], [2, 3, 4]), ([2], [2]), ([2], [2]), ([6, 7, 5, 2], [2, 6, 7]), ([8, 8, 2], [2, 8]), ([9], [9]), ([9], [9]), ([10, 11, 9, 9], [9, 10, 11]), ([9, 12, 2], [2, 9, 12]), ([5, 13, 2], [2, 5, 13]), ([14, 12, 2], [2, 14]), ([15], [15]), ([15], [15]), ([16, 17, 15, 15], [15, 16, 17]), ([15, 18, 2], [2, 15, 18]), ([19, 18, 2], [2, 19]), ([20], [20]), ([20], [20]), ([21, 22, 20, 20], [20, 21, 22]), ([20, 23, 2], [2, 20, 23]), ([24, 23, 2], [2, 24]), ([25], [25]), ([26, 25], [25, 26]), ([25], [25]), ([28, 25], [25, 28]), ([25], [25]), ([30, 25], [25, 30]), ([29, 31, 25], [25, 29, 31]), ([27, 32, 25], [25, 27, 32]), ([25, 33, 2], [2, 25, 33]), ([2, 34], [2, 34]), ([35, 25, 0, 1, 2, 3, 4, 5, 6, 7, 8, 9, 10, 11, 12, 13, 14, 15, 16, 17, 18, 19, 20, 21, 22, 23, 24, 25, 26, 27, 28, 29, 30, 31, 32, 33, 34, 35], [35])])
def posternlaw14_TnumSets.B16 : List Nat := [0, 1, 3, 7, 7, 31, 7, 7, 255, 511, 1023, 1023, 4095, 8191, 16383, 32767, 65535, 65535, 262143, 524287, 1048575, 2097151, 2097151, 8388607, 16777215, 33554431, 67108863, 134217727, 67108863, 335544319, 67108863, 1140850687, 4093640703, 8589934591, 17179869183, 34359738367, 68719476735]
theorem posternlaw14_TnumSets.tab16 : rtab .any (opsOf Try.f7 16) = posternlaw14_TnumSets.T16 := by kernel_rfl
theorem posternlaw14_TnumSets.bits16 : waitsOk posternlaw14_TnumSets.T16.2 posternlaw14_TnumSets.B16 = true := by kernel_rfl
end Go.Proofs.Ytladlljnpmpdpaa.PTnumSets
