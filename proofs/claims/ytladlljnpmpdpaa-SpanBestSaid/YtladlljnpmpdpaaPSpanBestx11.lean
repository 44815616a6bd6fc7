-- Written by a program of this session (a variant of the print), for this claim. Lean checks it.
import Derived.Test.YtladlljnpmpdpaaPSpanBestx0
import Derived.Test.YtladlljnpmpdpaaPSpanBestx1
import Derived.Test.YtladlljnpmpdpaaPSpanBestx4
import Derived.Test.YtladlljnpmpdpaaPSpanBestx10
namespace Go.Proofs.Ytladlljnpmpdpaa.PSpanBest
open Go.RowKit Go.Proofs.YtladlljnpmpdpaaW.PrintWords Go.Proofs.YtladlljnpmpdpaaW.PrintLast Go.Proofs.YtladlljnpmpdpaaW.PrintMore
attribute [local go_sem] max2_int min2_int max_two min_two max_three min_three max_four min_four   -- for this text's walks alone
attribute [local go_sem high] Go.Proofs.Ytladlljnpmpdpaa.NotLaw.not_u64 Go.Proofs.Ytladlljnpmpdpaa.NotLaw.not_u32 Go.Proofs.Ytladlljnpmpdpaa.NotLaw.not_u16 Go.Proofs.Ytladlljnpmpdpaa.NotLaw.not_u8
set_option linter.unusedVariables false
set_option linter.unusedSimpArgs false

attribute [local go_sem high] eqA58
/-! ### posternlaw15_SpanBest: function 8 -/
def posternlaw15_SpanBest.f (k : Nat) (a0_0 : Int) (a0_1 : Int) (a1_0 : Int) (a1_1 : Int) : Option (Bool) := (posternlaw15_first.f k).bind fun t261 => (if t261 = true then ((posternref15_Lo.f a0_0 a0_1).bind fun t262 => ((posternref15_Hi.f a0_0 a0_1).bind fun t263 => ((posternref15_Lo.f a1_0 a1_1).bind fun t264 => ((posternref15_Hi.f a1_0 a1_1).bind fun t265 => ((span_Do.f k 0 true a0_0 a0_1 a1_0 a1_1).bind fun bt266 => ((span_Do.f k 16 true a0_0 a0_1 a1_0 a1_1).bind fun bt270 => ((span_Do.f k 176 true a0_0 a0_1 a1_0 a1_1).bind fun bt274 => (if (!(bt274.1 == t264) || (!(bt274.2.1 == t265))) = true then (some false) else (if t263 ≤ (IntKind.u64.wrap (18446744073709551615 - t265)) then (if (!(bt266.1 == (IntKind.u64.wrap (t262 + t264))) || (!(bt266.2.1 == (IntKind.u64.wrap (t263 + t265))))) = true then (some false) else (if t262 < t265 then (some true) else (some (bt270.1 == (IntKind.u64.wrap (t262 - t265)) && (bt270.2.1 == (IntKind.u64.wrap (t263 - t264))))))) else (if t262 < t265 then (some true) else (some (bt270.1 == (IntKind.u64.wrap (t262 - t265)) && (bt270.2.1 == (IntKind.u64.wrap (t263 - t264))))))))))))))) else (some false))
theorem posternlaw15_SpanBest.mono : ∀ a0 a1 a2 a3 k, LeO (posternlaw15_SpanBest.f k a0 a1 a2 a3) (posternlaw15_SpanBest.f (k + 1) a0 a1 a2 a3) := by
 intro a0 a1 a2 a3 k
 unfold posternlaw15_SpanBest.f
 repeat' first
   | (with_reducible exact posternlaw15_first.mono _)
   | (with_reducible exact span_Do.mono _ _ _ _ _ _ _)
   | (with_reducible exact LeO.refl _)
   | (with_reducible exact LeO.none _)
   | (with_reducible refine LeO.ite ?_ ?_)
   | (with_reducible refine LeO.bind ?_ (fun _ => ?_))
   | exact posternlaw15_first.mono _
   | exact span_Do.mono _ _ _ _ _ _ _
   | exact LeO.none _
   | refine LeO.ite ?_ ?_
   | refine LeO.bind ?_ (fun _ => ?_)
def posternlaw15_SpanBest.T3 : Bool × List (List Nat × List Nat) := (true, [([], []), ([0], [0]), ([], []), ([2, 1], [2]), ([], []), ([4, 3], [4]), ([], []), ([6, 5], [6]), ([1, 7, 0, 1], [1]), ([3, 8, 0, 1, 2, 3, 8], [3]), ([5, 9, 0, 1, 2, 3, 4, 5, 8, 9], [5]), ([7, 10, 0, 1, 2, 3, 4, 5, 6, 7, 8, 9, 10], [7])])
def posternlaw15_SpanBest.B3 : List Nat := [0, 1, 0, 7, 0, 31, 0, 127, 255, 511, 1023, 2047]
theorem posternlaw15_SpanBest.tab3 : rtab .any (opsOf Try.f8 3) = posternlaw15_SpanBest.T3 := by kernel_rfl
theorem posternlaw15_SpanBest.bits3 : waitsOk posternlaw15_SpanBest.T3.2 posternlaw15_SpanBest.B3 = true := by kernel_rfl
set_option maxHeartbeats 8000000 in
set_option maxRecDepth 100000 in
theorem posternlaw15_SpanBest.calls (k : Nat) (a0_0 : Int) (a0_1 : Int) (a1_0 : Int) (a1_1 : Int) (r : Bool) (w : World) (hr_ : Aside0 (r = true)) (h : posternlaw15_SpanBest.f k a0_0 a0_1 a1_0 a1_1 = some r) :
  Calls Try.prog 8 #[.agg #[.int .u64 a0_0, .int .u64 a0_1], .agg #[.int .u64 a1_0, .int .u64 a1_1]] w fun e w' => e = .returned (.bool r) ∧ Below w.heap.size w w' := by
 have hu58 := Try.underlying58
 have HB := Aside0.mk (Below.refl w.heap.size w)
 have H : ((posternlaw15_first.f k).bind fun t261 => (if t261 = true then ((posternref15_Lo.f a0_0 a0_1).bind fun t262 => ((posternref15_Hi.f a0_0 a0_1).bind fun t263 => ((posternref15_Lo.f a1_0 a1_1).bind fun t264 => ((posternref15_Hi.f a1_0 a1_1).bind fun t265 => ((span_Do.f k 0 true a0_0 a0_1 a1_0 a1_1).bind fun bt266 => ((span_Do.f k 16 true a0_0 a0_1 a1_0 a1_1).bind fun bt270 => ((span_Do.f k 176 true a0_0 a0_1 a1_0 a1_1).bind fun bt274 => (if (!(bt274.1 == t264) || (!(bt274.2.1 == t265))) = true then (some false) else (if t263 ≤ (IntKind.u64.wrap (18446744073709551615 - t265)) then (if (!(bt266.1 == (IntKind.u64.wrap (t262 + t264))) || (!(bt266.2.1 == (IntKind.u64.wrap (t263 + t265))))) = true then (some false) else (if t262 < t265 then (some true) else (some (bt270.1 == (IntKind.u64.wrap (t262 - t265)) && (bt270.2.1 == (IntKind.u64.wrap (t263 - t264))))))) else (if t262 < t265 then (some true) else (some (bt270.1 == (IntKind.u64.wrap (t262 - t265)) && (bt270.2.1 == (IntKind.u64.wrap (t263 - t264))))))))))))))) else (some false))) = some r := h
 clear h; replace H := Option.bind_eq_some_iff.mp H; obtain ⟨t261, A30, H⟩ := H
 replace H : (if t261 = true then ((posternref15_Lo.f a0_0 a0_1).bind fun t262 => ((posternref15_Hi.f a0_0 a0_1).bind fun t263 => ((posternref15_Lo.f a1_0 a1_1).bind fun t264 => ((posternref15_Hi.f a1_0 a1_1).bind fun t265 => ((span_Do.f k 0 true a0_0 a0_1 a1_0 a1_1).bind fun bt266 => ((span_Do.f k 16 true a0_0 a0_1 a1_0 a1_1).bind fun bt270 => ((span_Do.f k 176 true a0_0 a0_1 a1_0 a1_1).bind fun bt274 => (if (!(bt274.1 == t264) || (!(bt274.2.1 == t265))) = true then (some false) else (if t263 ≤ (IntKind.u64.wrap (18446744073709551615 - t265)) then (if (!(bt266.1 == (IntKind.u64.wrap (t262 + t264))) || (!(bt266.2.1 == (IntKind.u64.wrap (t263 + t265))))) = true then (some false) else (if t262 < t265 then (some true) else (some (bt270.1 == (IntKind.u64.wrap (t262 - t265)) && (bt270.2.1 == (IntKind.u64.wrap (t263 - t264))))))) else (if t262 < t265 then (some true) else (some (bt270.1 == (IntKind.u64.wrap (t262 - t265)) && (bt270.2.1 == (IntKind.u64.wrap (t263 - t264))))))))))))))) else (some false)) = some r := H
 have A3 := Aside0.mk A30; clear A30
 by_cases c4 : t261 = true
 ·
  subst c4
  have H1 : ((posternref15_Lo.f a0_0 a0_1).bind fun t262 => ((posternref15_Hi.f a0_0 a0_1).bind fun t263 => ((posternref15_Lo.f a1_0 a1_1).bind fun t264 => ((posternref15_Hi.f a1_0 a1_1).bind fun t265 => ((span_Do.f k 0 true a0_0 a0_1 a1_0 a1_1).bind fun bt266 => ((span_Do.f k 16 true a0_0 a0_1 a1_0 a1_1).bind fun bt270 => ((span_Do.f k 176 true a0_0 a0_1 a1_0 a1_1).bind fun bt274 => (if (!(bt274.1 == t264) || (!(bt274.2.1 == t265))) = true then (some false) else (if t263 ≤ (IntKind.u64.wrap (18446744073709551615 - t265)) then (if (!(bt266.1 == (IntKind.u64.wrap (t262 + t264))) || (!(bt266.2.1 == (IntKind.u64.wrap (t263 + t265))))) = true then (some false) else (if t262 < t265 then (some true) else (some (bt270.1 == (IntKind.u64.wrap (t262 - t265)) && (bt270.2.1 == (IntKind.u64.wrap (t263 - t264))))))) else (if t262 < t265 then (some true) else (some (bt270.1 == (IntKind.u64.wrap (t262 - t265)) && (bt270.2.1 == (IntKind.u64.wrap (t263 - t264))))))))))))))) = some r := by rw [if_pos rfl] at H; exact H
  clear H; have H := H1; clear H1; replace H := Option.bind_eq_some_iff.mp H; obtain ⟨t262, A50, H⟩ := H
  replace H : ((posternref15_Hi.f a0_0 a0_1).bind fun t263 => ((posternref15_Lo.f a1_0 a1_1).bind fun t264 => ((posternref15_Hi.f a1_0 a1_1).bind fun t265 => ((span_Do.f k 0 true a0_0 a0_1 a1_0 a1_1).bind fun bt266 => ((span_Do.f k 16 true a0_0 a0_1 a1_0 a1_1).bind fun bt270 => ((span_Do.f k 176 true a0_0 a0_1 a1_0 a1_1).bind fun bt274 => (if (!(bt274.1 == t264) || (!(bt274.2.1 == t265))) = true then (some false) else (if t263 ≤ (IntKind.u64.wrap (18446744073709551615 - t265)) then (if (!(bt266.1 == (IntKind.u64.wrap (t262 + t264))) || (!(bt266.2.1 == (IntKind.u64.wrap (t263 + t265))))) = true then (some false) else (if t262 < t265 then (some true) else (some (bt270.1 == (IntKind.u64.wrap (t262 - t265)) && (bt270.2.1 == (IntKind.u64.wrap (t263 - t264))))))) else (if t262 < t265 then (some true) else (some (bt270.1 == (IntKind.u64.wrap (t262 - t265)) && (bt270.2.1 == (IntKind.u64.wrap (t263 - t264)))))))))))))) = some r := H
  have A5 := Aside0.mk A50; clear A50; replace H := Option.bind_eq_some_iff.mp H; obtain ⟨t263, A60, H⟩ := H
  replace H : ((posternref15_Lo.f a1_0 a1_1).bind fun t264 => ((posternref15_Hi.f a1_0 a1_1).bind fun t265 => ((span_Do.f k 0 true a0_0 a0_1 a1_0 a1_1).bind fun bt266 => ((span_Do.f k 16 true a0_0 a0_1 a1_0 a1_1).bind fun bt270 => ((span_Do.f k 176 true a0_0 a0_1 a1_0 a1_1).bind fun bt274 => (if (!(bt274.1 == t264) || (!(bt274.2.1 == t265))) = true then (some false) else (if t263 ≤ (IntKind.u64.wrap (18446744073709551615 - t265)) then (if (!(bt266.1 == (IntKind.u64.wrap (t262 + t264))) || (!(bt266.2.1 == (IntKind.u64.wrap (t263 + t265))))) = true then (some false) else (if t262 < t265 then (some true) else (some (bt270.1 == (IntKind.u64.wrap (t262 - t265)) && (bt270.2.1 == (IntKind.u64.wrap (t263 - t264))))))) else (if t262 < t265 then (some true) else (some (bt270.1 == (IntKind.u64.wrap (t262 - t265)) && (bt270.2.1 == (IntKind.u64.wrap (t263 - t264))))))))))))) = some r := H
  have A6 := Aside0.mk A60; clear A60; replace H := Option.bind_eq_some_iff.mp H; obtain ⟨t264, A70, H⟩ := H
  replace H : ((posternref15_Hi.f a1_0 a1_1).bind fun t265 => ((span_Do.f k 0 true a0_0 a0_1 a1_0 a1_1).bind fun bt266 => ((span_Do.f k 16 true a0_0 a0_1 a1_0 a1_1).bind fun bt270 => ((span_Do.f k 176 true a0_0 a0_1 a1_0 a1_1).bind fun bt274 => (if (!(bt274.1 == t264) || (!(bt274.2.1 == t265))) = true then (some false) else (if t263 ≤ (IntKind.u64.wrap (18446744073709551615 - t265)) then (if (!(bt266.1 == (IntKind.u64.wrap (t262 + t264))) || (!(bt266.2.1 == (IntKind.u64.wrap (t263 + t265))))) = true then (some false) else (if t262 < t265 then (some true) else (some (bt270.1 == (IntKind.u64.wrap (t262 - t265)) && (bt270.2.1 == (IntKind.u64.wrap (t263 - t264))))))) else (if t262 < t265 then (some true) else (some (bt270.1 == (IntKind.u64.wrap (t262 - t265)) && (bt270.2.1 == (IntKind.u64.wrap (t263 - t264)))))))))))) = some r := H
  have A7 := Aside0.mk A70; clear A70; replace H := Option.bind_eq_some_iff.mp H; obtain ⟨t265, A80, H⟩ := H
  replace H : ((span_Do.f k 0 true a0_0 a0_1 a1_0 a1_1).bind fun bt266 => ((span_Do.f k 16 true a0_0 a0_1 a1_0 a1_1).bind fun bt270 => ((span_Do.f k 176 true a0_0 a0_1 a1_0 a1_1).bind fun bt274 => (if (!(bt274.1 == t264) || (!(bt274.2.1 == t265))) = true then (some false) else (if t263 ≤ (IntKind.u64.wrap (18446744073709551615 - t265)) then (if (!(bt266.1 == (IntKind.u64.wrap (t262 + t264))) || (!(bt266.2.1 == (IntKind.u64.wrap (t263 + t265))))) = true then (some false) else (if t262 < t265 then (some true) else (some (bt270.1 == (IntKind.u64.wrap (t262 - t265)) && (bt270.2.1 == (IntKind.u64.wrap (t263 - t264))))))) else (if t262 < t265 then (some true) else (some (bt270.1 == (IntKind.u64.wrap (t262 - t265)) && (bt270.2.1 == (IntKind.u64.wrap (t263 - t264))))))))))) = some r := H
  have A8 := Aside0.mk A80; clear A80; replace H := Option.bind_eq_some_iff.mp H; obtain ⟨⟨t266, t267, t268⟩, A90, H⟩ := H
  replace H : ((span_Do.f k 16 true a0_0 a0_1 a1_0 a1_1).bind fun bt270 => ((span_Do.f k 176 true a0_0 a0_1 a1_0 a1_1).bind fun bt274 => (if (!(bt274.1 == t264) || (!(bt274.2.1 == t265))) = true then (some false) else (if t263 ≤ (IntKind.u64.wrap (18446744073709551615 - t265)) then (if (!(t266 == (IntKind.u64.wrap (t262 + t264))) || (!(t267 == (IntKind.u64.wrap (t263 + t265))))) = true then (some false) else (if t262 < t265 then (some true) else (some (bt270.1 == (IntKind.u64.wrap (t262 - t265)) && (bt270.2.1 == (IntKind.u64.wrap (t263 - t264))))))) else (if t262 < t265 then (some true) else (some (bt270.1 == (IntKind.u64.wrap (t262 - t265)) && (bt270.2.1 == (IntKind.u64.wrap (t263 - t264)))))))))) = some r := H
  have A9 := Aside0.mk A90; clear A90; replace H := Option.bind_eq_some_iff.mp H; obtain ⟨⟨t270, t271, t272⟩, A100, H⟩ := H
  replace H : ((span_Do.f k 176 true a0_0 a0_1 a1_0 a1_1).bind fun bt274 => (if (!(bt274.1 == t264) || (!(bt274.2.1 == t265))) = true then (some false) else (if t263 ≤ (IntKind.u64.wrap (18446744073709551615 - t265)) then (if (!(t266 == (IntKind.u64.wrap (t262 + t264))) || (!(t267 == (IntKind.u64.wrap (t263 + t265))))) = true then (some false) else (if t262 < t265 then (some true) else (some (t270 == (IntKind.u64.wrap (t262 - t265)) && (t271 == (IntKind.u64.wrap (t263 - t264))))))) else (if t262 < t265 then (some true) else (some (t270 == (IntKind.u64.wrap (t262 - t265)) && (t271 == (IntKind.u64.wrap (t263 - t264))))))))) = some r := H
  have A10 := Aside0.mk A100; clear A100; replace H := Option.bind_eq_some_iff.mp H; obtain ⟨⟨t274, t275, t276⟩, A110, H⟩ := H
  replace H : (if (!(t274 == t264) || (!(t275 == t265))) = true then (some false) else (if t263 ≤ (IntKind.u64.wrap (18446744073709551615 - t265)) then (if (!(t266 == (IntKind.u64.wrap (t262 + t264))) || (!(t267 == (IntKind.u64.wrap (t263 + t265))))) = true then (some false) else (if t262 < t265 then (some true) else (some (t270 == (IntKind.u64.wrap (t262 - t265)) && (t271 == (IntKind.u64.wrap (t263 - t264))))))) else (if t262 < t265 then (some true) else (some (t270 == (IntKind.u64.wrap (t262 - t265)) && (t271 == (IntKind.u64.wrap (t263 - t264)))))))) = some r := H
  have A11 := Aside0.mk A110; clear A110
  by_cases c12 : (!(t274 == t264) || (!(t275 == t265))) = true
  ·
   rw [if_pos c12] at H
   have c12b0 : (!(t274 == t264) || (!(t275 == t265))) = true := c12
   clear c12
   exact absurd (H.trans (congrArg some hr_.out)) (by simp)
  ·
   rw [if_neg c12] at H
   have c12b0 : (!(t274 == t264) || (!(t275 == t265))) = false := by simpa using c12
   clear c12
   by_cases c13 : t263 ≤ (IntKind.u64.wrap (18446744073709551615 - t265))
   ·
    rw [if_pos c13] at H
    have c13b0 : decide (t263 ≤ (IntKind.u64.wrap (18446744073709551615 - t265))) = true := decide_eq_true c13; clear c13
    by_cases c14 : (!(t266 == (IntKind.u64.wrap (t262 + t264))) || (!(t267 == (IntKind.u64.wrap (t263 + t265))))) = true
    ·
     rw [if_pos c14] at H
     have c14b0 : (!(t266 == (IntKind.u64.wrap (t262 + t264))) || (!(t267 == (IntKind.u64.wrap (t263 + t265))))) = true := c14
     clear c14
     exact absurd (H.trans (congrArg some hr_.out)) (by simp)
    ·
     rw [if_neg c14] at H
     have c14b0 : (!(t266 == (IntKind.u64.wrap (t262 + t264))) || (!(t267 == (IntKind.u64.wrap (t263 + t265))))) = false := by simpa using c14
     clear c14
     by_cases c15 : t262 < t265
     ·
      rw [if_pos c15] at H
      have c15b0 : decide (t262 < t265) = true := decide_eq_true c15; clear c15
      obtain rfl := Option.some.inj H
      go_enter Try.func8, Try.ntmps8
      try go_wp2_with (first | ((with_reducible refine gate_dst (N := 2) rfl ?_); refine box_event ?hg (N := 2) ?hd (cs := #[.int .u64 a0_0, .int .u64 a0_1]) (t := 58) ?hr ?_; (case hd => rfl); (case hg => rfl); (case hr => first | (go_simp; done) | (go_simp; rfl)); intro gb259 hg w16 hbox hb; have n0_ := Aside0.mk (below_step (by repeat (first | (with_reducible first | exact HB.out | apply lA | apply lN | apply lD) | exact HB.out)) hb); have n1_ := Aside0.mk (hbox); have n2_ := Aside0.mk ((by rw [hg]; exact (below_size (by repeat (first | (with_reducible first | exact HB.out | apply lA | apply lN | apply lD) | exact HB.out))) : w.heap.size ≤ gb259)); have n3_ := n2_; clear HB; have HB := n0_; have BK259 := n1_; have GW259 := n2_; have GE259 := n3_; clear n0_ n1_ n2_ n3_; clear hb hbox hg) | ((with_reducible refine gate_dst (N := 3) rfl ?_); refine box_event ?hg (N := 3) ?hd (cs := #[.int .u64 a1_0, .int .u64 a1_1]) (t := 58) ?hr ?_; (case hd => rfl); (case hg => rfl); (case hr => first | (go_simp; done) | (go_simp; rfl)); intro gb260 hg w17 hbox hb; have n0_ := Aside0.mk (blk_below (g := gb259) (o := .cells #[.int .u64 a0_0, .int .u64 a0_1] 58 (0, 0)) (by (with_reducible repeat (first | apply bN | apply bD | apply bA)); exact BK259.out) hb); have n1_ := Aside0.mk (below_step (by repeat (first | (with_reducible first | exact HB.out | apply lA | apply lN | apply lD | refine lS ?_ ‹_›) | exact HB.out)) hb); have n2_ := Aside0.mk (hbox); have n3_ := Aside0.mk ((by rw [hg]; exact (below_size (by repeat (first | (with_reducible first | exact HB.out | apply lA | apply lN | apply lD | refine lS ?_ ‹_›) | exact HB.out))) : w.heap.size ≤ gb260)); have n4_ := n3_; have n5_ := Aside0.mk ((by rw [hg]; exact Nat.ne_of_lt (blk_lt (g := gb259) (o := .cells #[.int .u64 a0_0, .int .u64 a0_1] 58 (0, 0)) (by (with_reducible repeat (first | apply bN | apply bD | apply bA)); exact BK259.out)) : gb259 ≠ gb260)); have n6_ := sy n5_; clear BK259; clear HB; have BK259 := n0_; have HB := n1_; have BK260 := n2_; have GW260 := n3_; have GE260 := n4_; have NB259_260 := n5_; have NB260_259 := n6_; clear n0_ n1_ n2_ n3_ n4_ n5_ n6_; clear hb hbox hg) | ((with_reducible refine gate_callee (f := 29) rfl ?_); refine goesL_ (some 15) rfl rfl Try.func29 (by kernel_rfl) rfl #[] rfl (by (try simp only [List.map_toArray, List.map_cons, List.map_nil]); first | done | rfl | (simp only [List.length_drop, List.length_take]; rfl)) ?_; (with_reducible refine (posternlaw15_first.calls k  true _ A3.out).mono ?_); rintro e w18 ⟨rfl, hb⟩; refine ⟨_, rfl, ?_⟩; have n0_ := Aside0.mk (blk_below (g := gb259) (o := .cells #[.int .u64 a0_0, .int .u64 a0_1] 58 (0, 0)) (by (with_reducible repeat (first | apply bN | apply bD | apply bA)); exact BK259.out) hb); have n1_ := Aside0.mk (blk_below (g := gb260) (o := .cells #[.int .u64 a1_0, .int .u64 a1_1] 58 (0, 0)) (by (with_reducible repeat (first | apply bN | apply bD | apply bA)); exact BK260.out) hb); have n2_ := Aside0.mk (below_step (by repeat (first | (with_reducible first | exact HB.out | apply lA | apply lN | apply lD | refine lS ?_ ‹_›) | exact HB.out)) hb); clear BK259; clear BK260; clear HB; have BK259 := n0_; have BK260 := n1_; have HB := n2_; clear n0_ n1_ n2_; (try clear hb); (try clear hb2); (try clear hk); (try clear hi)))
      have n0_ := Aside0.mk (blk_drew BK259.out); have n1_ := Aside0.mk (blk_drew BK260.out)
      have n2_ := Aside0.mk (below_drew1 HB.out)
      clear BK259; clear BK260; clear HB; have BK259 := n0_; have BK260 := n1_; have HB := n2_; clear n0_ n1_ n2_
      refine start_ (n := 12) (S := fun w' => w'.cell? ⟨gb259, 0, none⟩ = some (.int .u64 a0_0) ∧ w'.cell? ⟨gb259, 1, none⟩ = some (.int .u64 a0_1) ∧ w'.cell? ⟨gb260, 0, none⟩ = some (.int .u64 a1_0) ∧ w'.cell? ⟨gb260, 1, none⟩ = some (.int .u64 a1_1)) (ds := []) #[false, false, false, false, false, false, false, false, false, false, false, false] (by kernel_rfl) rfl rfl ⟨(blk_cell BK259.out 0).trans rfl, (blk_cell BK259.out 1).trans rfl, (blk_cell BK260.out 0).trans rfl, (blk_cell BK260.out 1).trans rfl⟩ (fun hHeld => ?_); refine with_tabW posternlaw15_SpanBest.tab3 posternlaw15_SpanBest.bits3 (fun HT_ HW_ => ?_)
      generalize w18.drew = w19 at BK259 BK260 HB hHeld ⊢
      refine take_ (i := 0) (N := some 17) (v := ?_) (a' := ?_) #[true, false, false, false, false, false, false, false, false, false, false, false] rfl rfl (take_ofW HT_.out HW_.out (by kernel_rfl)) (fun _ _ _ h => h) (Or.inl ⟨by rfl, ?_⟩) hHeld ?_ ?_
      rotate_left
      ·
       rintro w' ⟨s0, s1, s2, s3⟩
       go_simp; with_reducible rfl
      rotate_left
      ·
       simp only [Act.put, List.setIfInBounds_toArray, List.set_cons_zero, List.set_cons_succ, i64_w, i32_w]
       rfl
      refine take_ (i := 2) (N := some 19) (v := ?_) (a' := ?_) #[true, false, true, false, false, false, false, false, false, false, false, false] rfl rfl (take_ofW HT_.out HW_.out (by kernel_rfl)) (fun _ _ _ h => h) (Or.inl ⟨by rfl, ?_⟩) hHeld ?_ ?_
      rotate_left
      ·
       rintro w' ⟨s0, s1, s2, s3⟩
       go_simp; with_reducible rfl
      rotate_left
      ·
       simp only [Act.put, List.setIfInBounds_toArray, List.set_cons_zero, List.set_cons_succ, i64_w, i32_w]
       rfl
      refine take_ (i := 4) (N := some 21) (v := ?_) (a' := ?_) #[true, false, true, false, true, false, false, false, false, false, false, false] rfl rfl (take_ofW HT_.out HW_.out (by kernel_rfl)) (fun _ _ _ h => h) (Or.inl ⟨by rfl, ?_⟩) hHeld ?_ ?_
      rotate_left
      ·
       rintro w' ⟨s0, s1, s2, s3⟩
       go_simp; with_reducible rfl
      rotate_left
      ·
       simp only [Act.put, List.setIfInBounds_toArray, List.set_cons_zero, List.set_cons_succ, i64_w, i32_w]
       rfl
      refine take_ (i := 6) (N := some 23) (v := ?_) (a' := ?_) #[true, false, true, false, true, false, true, false, false, false, false, false] rfl rfl (take_ofW HT_.out HW_.out (by kernel_rfl)) (fun _ _ _ h => h) (Or.inl ⟨by rfl, ?_⟩) hHeld ?_ ?_
      rotate_left
      ·
       rintro w' ⟨s0, s1, s2, s3⟩
       go_simp; with_reducible rfl
      rotate_left
      ·
       simp only [Act.put, List.setIfInBounds_toArray, List.set_cons_zero, List.set_cons_succ, i64_w, i32_w]
       rfl
      refine one_ (i := 1) (N := some 18) #[true, true, true, false, true, false, true, false, false, false, false, false] rfl rfl (one_of HT_.out (by kernel_rfl)) (by decide) (fun K hK => ?_)
      refine goes_ Try.func30 (by kernel_rfl) rfl #[.agg #[.int .u64 a0_0, .int .u64 a0_1]] (by rfl) rfl rfl (by (try simp only [List.map_toArray, List.map_cons, List.map_nil]); first | done | rfl | (simp only [List.length_drop, List.length_take]; rfl)) ?_
      with_reducible refine (posternref15_Lo.calls a0_0 a0_1 t262 _ A5.out).mono ?_
      rintro e w20 ⟨rfl, hb⟩
      refine ⟨_, rfl, ?_⟩
      have n0_ := Aside0.mk (blk_below (g := gb259) (o := .cells #[.int .u64 a0_0, .int .u64 a0_1] 58 (0, 0)) (by (with_reducible repeat (first | apply bN | apply bD | apply bA)); exact BK259.out) hb)
      have n1_ := Aside0.mk (blk_below (g := gb260) (o := .cells #[.int .u64 a1_0, .int .u64 a1_1] 58 (0, 0)) (by (with_reducible repeat (first | apply bN | apply bD | apply bA)); exact BK260.out) hb)
      have n2_ := Aside0.mk (below_step (by repeat (first | (with_reducible first | exact HB.out | apply lA | apply lN | apply lD | refine lS ?_ ‹_›) | exact HB.out)) hb)
      clear BK259; clear BK260; clear HB; have BK259 := n0_; have BK260 := n1_; have HB := n2_; clear n0_ n1_ n2_
      (try clear hb)
      (try clear hb2)
      (try clear hk)
      (try clear hi)
      refine hK.out _ _ ⟨(blk_cell BK259.out 0).trans rfl, (blk_cell BK259.out 1).trans rfl, (blk_cell BK260.out 0).trans rfl, (blk_cell BK260.out 1).trans rfl⟩ (fun hHeld => ?_)
      clear hK K
      refine norm_ (a' := ?_) ?_ ?_
      rotate_left
      ·
       show Act.put _ (some 18) _ = _
       simp only [Act.put, List.setIfInBounds_toArray, List.set_cons_zero, List.set_cons_succ, i64_w, i32_w]
       rfl
      refine one_ (i := 3) (N := some 20) #[true, true, true, true, true, false, true, false, false, false, false, false] rfl rfl (one_of HT_.out (by kernel_rfl)) (by decide) (fun K hK => ?_)
      refine goes_ Try.func31 (by kernel_rfl) rfl #[.agg #[.int .u64 a0_0, .int .u64 a0_1]] (by rfl) rfl rfl (by (try simp only [List.map_toArray, List.map_cons, List.map_nil]); first | done | rfl | (simp only [List.length_drop, List.length_take]; rfl)) ?_
      with_reducible refine (posternref15_Hi.calls a0_0 a0_1 t263 _ A6.out).mono ?_
      rintro e w21 ⟨rfl, hb⟩
      refine ⟨_, rfl, ?_⟩
      have n0_ := Aside0.mk (blk_below (g := gb259) (o := .cells #[.int .u64 a0_0, .int .u64 a0_1] 58 (0, 0)) (by (with_reducible repeat (first | apply bN | apply bD | apply bA)); exact BK259.out) hb)
      have n1_ := Aside0.mk (blk_below (g := gb260) (o := .cells #[.int .u64 a1_0, .int .u64 a1_1] 58 (0, 0)) (by (with_reducible repeat (first | apply bN | apply bD | apply bA)); exact BK260.out) hb)
      have n2_ := Aside0.mk (below_step (by repeat (first | (with_reducible first | exact HB.out | apply lA | apply lN | apply lD | refine lS ?_ ‹_›) | exact HB.out)) hb)
      clear BK259; clear BK260; clear HB; have BK259 := n0_; have BK260 := n1_; have HB := n2_; clear n0_ n1_ n2_
      (try clear hb)
      (try clear hb2)
      (try clear hk)
      (try clear hi)
      refine hK.out _ _ ⟨(blk_cell BK259.out 0).trans rfl, (blk_cell BK259.out 1).trans rfl, (blk_cell BK260.out 0).trans rfl, (blk_cell BK260.out 1).trans rfl⟩ (fun hHeld => ?_)
      clear hK K
      refine norm_ (a' := ?_) ?_ ?_
      rotate_left
      ·
       show Act.put _ (some 20) _ = _
       simp only [Act.put, List.setIfInBounds_toArray, List.set_cons_zero, List.set_cons_succ, i64_w, i32_w]
       rfl
      refine one_ (i := 5) (N := some 22) #[true, true, true, true, true, true, true, false, false, false, false, false] rfl rfl (one_of HT_.out (by kernel_rfl)) (by decide) (fun K hK => ?_)
      refine goes_ Try.func30 (by kernel_rfl) rfl #[.agg #[.int .u64 a1_0, .int .u64 a1_1]] (by rfl) rfl rfl (by (try simp only [List.map_toArray, List.map_cons, List.map_nil]); first | done | rfl | (simp only [List.length_drop, List.length_take]; rfl)) ?_
      with_reducible refine (posternref15_Lo.calls a1_0 a1_1 t264 _ A7.out).mono ?_
      rintro e w22 ⟨rfl, hb⟩
      refine ⟨_, rfl, ?_⟩
      have n0_ := Aside0.mk (blk_below (g := gb259) (o := .cells #[.int .u64 a0_0, .int .u64 a0_1] 58 (0, 0)) (by (with_reducible repeat (first | apply bN | apply bD | apply bA)); exact BK259.out) hb)
      have n1_ := Aside0.mk (blk_below (g := gb260) (o := .cells #[.int .u64 a1_0, .int .u64 a1_1] 58 (0, 0)) (by (with_reducible repeat (first | apply bN | apply bD | apply bA)); exact BK260.out) hb)
      have n2_ := Aside0.mk (below_step (by repeat (first | (with_reducible first | exact HB.out | apply lA | apply lN | apply lD | refine lS ?_ ‹_›) | exact HB.out)) hb)
      clear BK259; clear BK260; clear HB; have BK259 := n0_; have BK260 := n1_; have HB := n2_; clear n0_ n1_ n2_
      (try clear hb)
      (try clear hb2)
      (try clear hk)
      (try clear hi)
      refine hK.out _ _ ⟨(blk_cell BK259.out 0).trans rfl, (blk_cell BK259.out 1).trans rfl, (blk_cell BK260.out 0).trans rfl, (blk_cell BK260.out 1).trans rfl⟩ (fun hHeld => ?_)
      clear hK K
      refine norm_ (a' := ?_) ?_ ?_
      rotate_left
      ·
       show Act.put _ (some 22) _ = _
       simp only [Act.put, List.setIfInBounds_toArray, List.set_cons_zero, List.set_cons_succ, i64_w, i32_w]
       rfl
      refine one_ (i := 7) (N := some 24) #[true, true, true, true, true, true, true, true, false, false, false, false] rfl rfl (one_of HT_.out (by kernel_rfl)) (by decide) (fun K hK => ?_)
      refine goes_ Try.func31 (by kernel_rfl) rfl #[.agg #[.int .u64 a1_0, .int .u64 a1_1]] (by rfl) rfl rfl (by (try simp only [List.map_toArray, List.map_cons, List.map_nil]); first | done | rfl | (simp only [List.length_drop, List.length_take]; rfl)) ?_
      with_reducible refine (posternref15_Hi.calls a1_0 a1_1 t265 _ A8.out).mono ?_
      rintro e w23 ⟨rfl, hb⟩
      refine ⟨_, rfl, ?_⟩
      have n0_ := Aside0.mk (blk_below (g := gb259) (o := .cells #[.int .u64 a0_0, .int .u64 a0_1] 58 (0, 0)) (by (with_reducible repeat (first | apply bN | apply bD | apply bA)); exact BK259.out) hb)
      have n1_ := Aside0.mk (blk_below (g := gb260) (o := .cells #[.int .u64 a1_0, .int .u64 a1_1] 58 (0, 0)) (by (with_reducible repeat (first | apply bN | apply bD | apply bA)); exact BK260.out) hb)
      have n2_ := Aside0.mk (below_step (by repeat (first | (with_reducible first | exact HB.out | apply lA | apply lN | apply lD | refine lS ?_ ‹_›) | exact HB.out)) hb)
      clear BK259; clear BK260; clear HB; have BK259 := n0_; have BK260 := n1_; have HB := n2_; clear n0_ n1_ n2_
      (try clear hb)
      (try clear hb2)
      (try clear hk)
      (try clear hi)
      refine hK.out _ _ ⟨(blk_cell BK259.out 0).trans rfl, (blk_cell BK259.out 1).trans rfl, (blk_cell BK260.out 0).trans rfl, (blk_cell BK260.out 1).trans rfl⟩ (fun hHeld => ?_)
      clear hK K
      refine norm_ (a' := ?_) ?_ ?_
      rotate_left
      ·
       show Act.put _ (some 24) _ = _
       simp only [Act.put, List.setIfInBounds_toArray, List.set_cons_zero, List.set_cons_succ, i64_w, i32_w]
       rfl
      refine pure_ (i := 8) (N := some 5) (v := ?_) (a' := ?_) #[true, true, true, true, true, true, true, true, true, false, false, false] rfl rfl (any_of HT_.out (by kernel_rfl)) (fun _ _ _ h => h) (Or.inl ⟨by rfl, ?_⟩) ?_ ?_
      rotate_left
      ·
       intro w'
       go_simp; with_reducible rfl
      rotate_left
      ·
       simp only [Act.put, List.setIfInBounds_toArray, List.set_cons_zero, List.set_cons_succ, i64_w, i32_w]
       rfl
      refine pure_ (i := 9) (N := some 6) (v := ?_) (a' := ?_) #[true, true, true, true, true, true, true, true, true, true, false, false] rfl rfl (any_of HT_.out (by kernel_rfl)) (fun _ _ _ h => h) (Or.inl ⟨by rfl, ?_⟩) ?_ ?_
      rotate_left
      ·
       intro w'
       go_simp; with_reducible rfl
      rotate_left
      ·
       simp only [Act.put, List.setIfInBounds_toArray, List.set_cons_zero, List.set_cons_succ, i64_w, i32_w]
       rfl
      refine pure_ (i := 10) (N := some 7) (v := ?_) (a' := ?_) #[true, true, true, true, true, true, true, true, true, true, true, false] rfl rfl (any_of HT_.out (by kernel_rfl)) (fun _ _ _ h => h) (Or.inl ⟨by rfl, ?_⟩) ?_ ?_
      rotate_left
      ·
       intro w'
       go_simp; with_reducible rfl
      rotate_left
      ·
       simp only [Act.put, List.setIfInBounds_toArray, List.set_cons_zero, List.set_cons_succ, i64_w, i32_w]
       rfl
      refine pure_ (i := 11) (N := some 8) (v := ?_) (a' := ?_) #[true, true, true, true, true, true, true, true, true, true, true, true] rfl rfl (any_of HT_.out (by kernel_rfl)) (fun _ _ _ h => h) (Or.inl ⟨by rfl, ?_⟩) ?_ ?_
      rotate_left
      ·
       intro w'
       go_simp; with_reducible rfl
      rotate_left
      ·
       simp only [Act.put, List.setIfInBounds_toArray, List.set_cons_zero, List.set_cons_succ, i64_w, i32_w]
       rfl
      refine done_ (done_of HT_.out (by kernel_rfl)) ?_
      have hnb24 := NB259_260.out; have hnc24 := NB260_259.out; have hcz25_0 : w23.cell? ⟨gb259, 0, none⟩ = some (.int .u64 a0_0) := (blk_cell BK259.out 0).trans rfl; have hcz25_1 : w23.cell? ⟨gb259, 1, none⟩ = some (.int .u64 a0_1) := (blk_cell BK259.out 1).trans rfl; have hfz25_0 := blk_frozen BK259.out 0; have hfz25_1 := blk_frozen BK259.out 1; have hcz26_0 : w23.cell? ⟨gb260, 0, none⟩ = some (.int .u64 a1_0) := (blk_cell BK260.out 0).trans rfl; have hcz26_1 : w23.cell? ⟨gb260, 1, none⟩ = some (.int .u64 a1_1) := (blk_cell BK260.out 1).trans rfl; have hfz26_0 := blk_frozen BK260.out 0; have hfz26_1 := blk_frozen BK260.out 1
      try go_wp2_with (first | ((with_reducible refine gate_callee (f := 32) rfl ?_); refine goesL_ (some 28) rfl rfl Try.func32 (by kernel_rfl) rfl #[.int .i64 0, .bool true, .agg #[.int .u64 a0_0, .int .u64 a0_1], .agg #[.int .u64 a1_0, .int .u64 a1_1]] rfl (by (try simp only [List.map_toArray, List.map_cons, List.map_nil]); first | done | rfl | (simp only [List.length_drop, List.length_take]; rfl)) ?_; (with_reducible refine (span_Do.calls k 0 true a0_0 a0_1 a1_0 a1_1 t266 t267 t268 _ A9.out).mono ?_); rintro e w27 ⟨rfl, hb⟩; refine ⟨_, rfl, ?_⟩; have n0_ := Aside0.mk (blk_below (g := gb259) (o := .cells #[.int .u64 a0_0, .int .u64 a0_1] 58 (0, 0)) (by (with_reducible repeat (first | apply bN | apply bD | apply bA)); exact BK259.out) hb); have n1_ := Aside0.mk (blk_below (g := gb260) (o := .cells #[.int .u64 a1_0, .int .u64 a1_1] 58 (0, 0)) (by (with_reducible repeat (first | apply bN | apply bD | apply bA)); exact BK260.out) hb); have n2_ := Aside0.mk (below_step (by repeat (first | (with_reducible first | exact HB.out | apply lA | apply lN | apply lD | refine lS ?_ ‹_›) | exact HB.out)) hb); clear BK259; clear BK260; clear HB; have BK259 := n0_; have BK260 := n1_; have HB := n2_; clear n0_ n1_ n2_; (try clear hb); (try clear hb2); (try clear hk); (try clear hi)) | ((with_reducible refine gate_dst (N := 9) rfl ?_); refine box_event ?hg (N := 9) ?hd (cs := #[.int .u64 0, .int .u64 0]) (t := 58) ?hr ?_; (case hd => rfl); (case hg => rfl); (case hr => first | (go_simp; done) | (go_simp; rfl)); intro gb269 hg w28 hbox hb; have n0_ := Aside0.mk (blk_below (g := gb259) (o := .cells #[.int .u64 a0_0, .int .u64 a0_1] 58 (0, 0)) (by (with_reducible repeat (first | apply bN | apply bD | apply bA)); exact BK259.out) hb); have n1_ := Aside0.mk (blk_below (g := gb260) (o := .cells #[.int .u64 a1_0, .int .u64 a1_1] 58 (0, 0)) (by (with_reducible repeat (first | apply bN | apply bD | apply bA)); exact BK260.out) hb); have n2_ := Aside0.mk (below_step (by repeat (first | (with_reducible first | exact HB.out | apply lA | apply lN | apply lD | refine lS ?_ ‹_›) | exact HB.out)) hb); have n3_ := Aside0.mk (hbox); have n4_ := Aside0.mk ((by rw [hg]; exact (below_size (by repeat (first | (with_reducible first | exact HB.out | apply lA | apply lN | apply lD | refine lS ?_ ‹_›) | exact HB.out))) : w.heap.size ≤ gb269)); have n5_ := n4_; have n6_ := Aside0.mk ((by rw [hg]; exact Nat.ne_of_lt (blk_lt (g := gb259) (o := .cells #[.int .u64 a0_0, .int .u64 a0_1] 58 (0, 0)) (by (with_reducible repeat (first | apply bN | apply bD | apply bA)); exact BK259.out)) : gb259 ≠ gb269)); have n7_ := sy n6_; have n8_ := Aside0.mk ((by rw [hg]; exact Nat.ne_of_lt (blk_lt (g := gb260) (o := .cells #[.int .u64 a1_0, .int .u64 a1_1] 58 (0, 0)) (by (with_reducible repeat (first | apply bN | apply bD | apply bA)); exact BK260.out)) : gb260 ≠ gb269)); have n9_ := sy n8_; clear BK259; clear BK260; clear HB; have BK259 := n0_; have BK260 := n1_; have HB := n2_; have BK269 := n3_; have GW269 := n4_; have GE269 := n5_; have NB259_269 := n6_; have NB269_259 := n7_; have NB260_269 := n8_; have NB269_260 := n9_; clear n0_ n1_ n2_ n3_ n4_ n5_ n6_ n7_ n8_ n9_; clear hb hbox hg; have hnb29 := NB269_259.out; have hnc29 := NB259_269.out; have hnb30 := NB269_260.out; have hnc30 := NB260_269.out; have hcz31_0 : w28.cell? ⟨gb269, 0, none⟩ = some (.int .u64 0) := (blk_cell BK269.out 0).trans rfl; have hcz31_1 : w28.cell? ⟨gb269, 1, none⟩ = some (.int .u64 0) := (blk_cell BK269.out 1).trans rfl; have hfz31_0 := blk_frozen BK269.out 0; have hfz31_1 := blk_frozen BK269.out 1; have hcz32_0 : w28.cell? ⟨gb259, 0, none⟩ = some (.int .u64 a0_0) := (blk_cell BK259.out 0).trans rfl; have hcz32_1 : w28.cell? ⟨gb259, 1, none⟩ = some (.int .u64 a0_1) := (blk_cell BK259.out 1).trans rfl; have hfz32_0 := blk_frozen BK259.out 0; have hfz32_1 := blk_frozen BK259.out 1; have hcz33_0 : w28.cell? ⟨gb260, 0, none⟩ = some (.int .u64 a1_0) := (blk_cell BK260.out 0).trans rfl; have hcz33_1 : w28.cell? ⟨gb260, 1, none⟩ = some (.int .u64 a1_1) := (blk_cell BK260.out 1).trans rfl; have hfz33_0 := blk_frozen BK260.out 0; have hfz33_1 := blk_frozen BK260.out 1) | ((with_reducible refine gate_callee (f := 32) rfl ?_); refine goesL_ (some 34) rfl rfl Try.func32 (by kernel_rfl) rfl #[.int .i64 16, .bool true, .agg #[.int .u64 a0_0, .int .u64 a0_1], .agg #[.int .u64 a1_0, .int .u64 a1_1]] rfl (by (try simp only [List.map_toArray, List.map_cons, List.map_nil]); first | done | rfl | (simp only [List.length_drop, List.length_take]; rfl)) ?_; (with_reducible refine (span_Do.calls k 16 true a0_0 a0_1 a1_0 a1_1 t270 t271 t272 _ A10.out).mono ?_); rintro e w34 ⟨rfl, hb⟩; refine ⟨_, rfl, ?_⟩; have n0_ := Aside0.mk (blk_below (g := gb259) (o := .cells #[.int .u64 a0_0, .int .u64 a0_1] 58 (0, 0)) (by (with_reducible repeat (first | apply bN | apply bD | apply bA)); refine blk_far ?_ NB259_269.out _; (with_reducible repeat (first | apply bN | apply bD | apply bA)); refine blk_far ?_ NB259_269.out _; (with_reducible repeat (first | apply bN | apply bD | apply bA)); exact BK259.out) hb); have n1_ := Aside0.mk (blk_below (g := gb260) (o := .cells #[.int .u64 a1_0, .int .u64 a1_1] 58 (0, 0)) (by (with_reducible repeat (first | apply bN | apply bD | apply bA)); refine blk_far ?_ NB260_269.out _; (with_reducible repeat (first | apply bN | apply bD | apply bA)); refine blk_far ?_ NB260_269.out _; (with_reducible repeat (first | apply bN | apply bD | apply bA)); exact BK260.out) hb); have n2_ := Aside0.mk (blk_below (g := gb269) (o := .cells #[.int .u64 t266, .int .u64 t267] 58 (0, 0)) (by (with_reducible repeat (first | apply bN | apply bD | apply bA)); refine blk_put (cs := #[.int .u64 t266, .int .u64 0]) ?_ 1 _ rfl; (with_reducible repeat (first | apply bN | apply bD | apply bA)); refine blk_put (cs := #[.int .u64 0, .int .u64 0]) ?_ 0 _ rfl; (with_reducible repeat (first | apply bN | apply bD | apply bA)); exact BK269.out) hb); have n3_ := Aside0.mk (below_step (by repeat (first | (with_reducible first | exact HB.out | apply lA | apply lN | apply lD | refine lS ?_ ‹_›) | exact HB.out)) hb); clear BK259; clear BK260; clear BK269; clear HB; have BK259 := n0_; have BK260 := n1_; have BK269 := n2_; have HB := n3_; clear n0_ n1_ n2_ n3_; (try clear hb); (try clear hb2); (try clear hk); (try clear hi)) | ((with_reducible refine gate_dst (N := 11) rfl ?_); refine box_event ?hg (N := 11) ?hd (cs := #[.int .u64 0, .int .u64 0]) (t := 58) ?hr ?_; (case hd => rfl); (case hg => rfl); (case hr => first | (go_simp; done) | (go_simp; rfl)); intro gb273 hg w35 hbox hb; have n0_ := Aside0.mk (blk_below (g := gb259) (o := .cells #[.int .u64 a0_0, .int .u64 a0_1] 58 (0, 0)) (by (with_reducible repeat (first | apply bN | apply bD | apply bA)); exact BK259.out) hb); have n1_ := Aside0.mk (blk_below (g := gb260) (o := .cells #[.int .u64 a1_0, .int .u64 a1_1] 58 (0, 0)) (by (with_reducible repeat (first | apply bN | apply bD | apply bA)); exact BK260.out) hb); have n2_ := Aside0.mk (blk_below (g := gb269) (o := .cells #[.int .u64 t266, .int .u64 t267] 58 (0, 0)) (by (with_reducible repeat (first | apply bN | apply bD | apply bA)); exact BK269.out) hb); have n3_ := Aside0.mk (below_step (by repeat (first | (with_reducible first | exact HB.out | apply lA | apply lN | apply lD | refine lS ?_ ‹_›) | exact HB.out)) hb); have n4_ := Aside0.mk (hbox); have n5_ := Aside0.mk ((by rw [hg]; exact (below_size (by repeat (first | (with_reducible first | exact HB.out | apply lA | apply lN | apply lD | refine lS ?_ ‹_›) | exact HB.out))) : w.heap.size ≤ gb273)); have n6_ := n5_; have n7_ := Aside0.mk ((by rw [hg]; exact Nat.ne_of_lt (blk_lt (g := gb259) (o := .cells #[.int .u64 a0_0, .int .u64 a0_1] 58 (0, 0)) (by (with_reducible repeat (first | apply bN | apply bD | apply bA)); exact BK259.out)) : gb259 ≠ gb273)); have n8_ := sy n7_; have n9_ := Aside0.mk ((by rw [hg]; exact Nat.ne_of_lt (blk_lt (g := gb260) (o := .cells #[.int .u64 a1_0, .int .u64 a1_1] 58 (0, 0)) (by (with_reducible repeat (first | apply bN | apply bD | apply bA)); exact BK260.out)) : gb260 ≠ gb273)); have n10_ := sy n9_; have n11_ := Aside0.mk ((by rw [hg]; exact Nat.ne_of_lt (blk_lt (g := gb269) (o := .cells #[.int .u64 t266, .int .u64 t267] 58 (0, 0)) (by (with_reducible repeat (first | apply bN | apply bD | apply bA)); exact BK269.out)) : gb269 ≠ gb273)); have n12_ := sy n11_; clear BK259; clear BK260; clear BK269; clear HB; have BK259 := n0_; have BK260 := n1_; have BK269 := n2_; have HB := n3_; have BK273 := n4_; have GW273 := n5_; have GE273 := n6_; have NB259_273 := n7_; have NB273_259 := n8_; have NB260_273 := n9_; have NB273_260 := n10_; have NB269_273 := n11_; have NB273_269 := n12_; clear n0_ n1_ n2_ n3_ n4_ n5_ n6_ n7_ n8_ n9_ n10_ n11_ n12_; clear hb hbox hg; have hnb36 := NB273_259.out; have hnc36 := NB259_273.out; have hnb37 := NB273_260.out; have hnc37 := NB260_273.out; have hnb38 := NB273_269.out; have hnc38 := NB269_273.out; have hcz39_0 : w35.cell? ⟨gb273, 0, none⟩ = some (.int .u64 0) := (blk_cell BK273.out 0).trans rfl; have hcz39_1 : w35.cell? ⟨gb273, 1, none⟩ = some (.int .u64 0) := (blk_cell BK273.out 1).trans rfl; have hfz39_0 := blk_frozen BK273.out 0; have hfz39_1 := blk_frozen BK273.out 1; have hcz40_0 : w35.cell? ⟨gb259, 0, none⟩ = some (.int .u64 a0_0) := (blk_cell BK259.out 0).trans rfl; have hcz40_1 : w35.cell? ⟨gb259, 1, none⟩ = some (.int .u64 a0_1) := (blk_cell BK259.out 1).trans rfl; have hfz40_0 := blk_frozen BK259.out 0; have hfz40_1 := blk_frozen BK259.out 1; have hcz41_0 : w35.cell? ⟨gb260, 0, none⟩ = some (.int .u64 a1_0) := (blk_cell BK260.out 0).trans rfl; have hcz41_1 : w35.cell? ⟨gb260, 1, none⟩ = some (.int .u64 a1_1) := (blk_cell BK260.out 1).trans rfl; have hfz41_0 := blk_frozen BK260.out 0; have hfz41_1 := blk_frozen BK260.out 1) | ((with_reducible refine gate_callee (f := 32) rfl ?_); refine goesL_ (some 40) rfl rfl Try.func32 (by kernel_rfl) rfl #[.int .i64 176, .bool true, .agg #[.int .u64 a0_0, .int .u64 a0_1], .agg #[.int .u64 a1_0, .int .u64 a1_1]] rfl (by (try simp only [List.map_toArray, List.map_cons, List.map_nil]); first | done | rfl | (simp only [List.length_drop, List.length_take]; rfl)) ?_; (with_reducible refine (span_Do.calls k 176 true a0_0 a0_1 a1_0 a1_1 t274 t275 t276 _ A11.out).mono ?_); rintro e w42 ⟨rfl, hb⟩; refine ⟨_, rfl, ?_⟩; have n0_ := Aside0.mk (blk_below (g := gb259) (o := .cells #[.int .u64 a0_0, .int .u64 a0_1] 58 (0, 0)) (by (with_reducible repeat (first | apply bN | apply bD | apply bA)); refine blk_far ?_ NB259_273.out _; (with_reducible repeat (first | apply bN | apply bD | apply bA)); refine blk_far ?_ NB259_273.out _; (with_reducible repeat (first | apply bN | apply bD | apply bA)); exact BK259.out) hb); have n1_ := Aside0.mk (blk_below (g := gb260) (o := .cells #[.int .u64 a1_0, .int .u64 a1_1] 58 (0, 0)) (by (with_reducible repeat (first | apply bN | apply bD | apply bA)); refine blk_far ?_ NB260_273.out _; (with_reducible repeat (first | apply bN | apply bD | apply bA)); refine blk_far ?_ NB260_273.out _; (with_reducible repeat (first | apply bN | apply bD | apply bA)); exact BK260.out) hb); have n2_ := Aside0.mk (blk_below (g := gb269) (o := .cells #[.int .u64 t266, .int .u64 t267] 58 (0, 0)) (by (with_reducible repeat (first | apply bN | apply bD | apply bA)); refine blk_far ?_ NB269_273.out _; (with_reducible repeat (first | apply bN | apply bD | apply bA)); refine blk_far ?_ NB269_273.out _; (with_reducible repeat (first | apply bN | apply bD | apply bA)); exact BK269.out) hb); have n3_ := Aside0.mk (blk_below (g := gb273) (o := .cells #[.int .u64 t270, .int .u64 t271] 58 (0, 0)) (by (with_reducible repeat (first | apply bN | apply bD | apply bA)); refine blk_put (cs := #[.int .u64 t270, .int .u64 0]) ?_ 1 _ rfl; (with_reducible repeat (first | apply bN | apply bD | apply bA)); refine blk_put (cs := #[.int .u64 0, .int .u64 0]) ?_ 0 _ rfl; (with_reducible repeat (first | apply bN | apply bD | apply bA)); exact BK273.out) hb); have n4_ := Aside0.mk (below_step (by repeat (first | (with_reducible first | exact HB.out | apply lA | apply lN | apply lD | refine lS ?_ ‹_›) | exact HB.out)) hb); clear BK259; clear BK260; clear BK269; clear BK273; clear HB; have BK259 := n0_; have BK260 := n1_; have BK269 := n2_; have BK273 := n3_; have HB := n4_; clear n0_ n1_ n2_ n3_ n4_; (try clear hb); (try clear hb2); (try clear hk); (try clear hi)) | ((with_reducible refine gate_dst (N := 13) rfl ?_); refine box_event ?hg (N := 13) ?hd (cs := #[.int .u64 0, .int .u64 0]) (t := 58) ?hr ?_; (case hd => rfl); (case hg => rfl); (case hr => first | (go_simp; done) | (go_simp; rfl)); intro gb277 hg w43 hbox hb; have n0_ := Aside0.mk (blk_below (g := gb259) (o := .cells #[.int .u64 a0_0, .int .u64 a0_1] 58 (0, 0)) (by (with_reducible repeat (first | apply bN | apply bD | apply bA)); exact BK259.out) hb); have n1_ := Aside0.mk (blk_below (g := gb260) (o := .cells #[.int .u64 a1_0, .int .u64 a1_1] 58 (0, 0)) (by (with_reducible repeat (first | apply bN | apply bD | apply bA)); exact BK260.out) hb); have n2_ := Aside0.mk (blk_below (g := gb269) (o := .cells #[.int .u64 t266, .int .u64 t267] 58 (0, 0)) (by (with_reducible repeat (first | apply bN | apply bD | apply bA)); exact BK269.out) hb); have n3_ := Aside0.mk (blk_below (g := gb273) (o := .cells #[.int .u64 t270, .int .u64 t271] 58 (0, 0)) (by (with_reducible repeat (first | apply bN | apply bD | apply bA)); exact BK273.out) hb); have n4_ := Aside0.mk (below_step (by repeat (first | (with_reducible first | exact HB.out | apply lA | apply lN | apply lD | refine lS ?_ ‹_›) | exact HB.out)) hb); have n5_ := Aside0.mk (hbox); have n6_ := Aside0.mk ((by rw [hg]; exact (below_size (by repeat (first | (with_reducible first | exact HB.out | apply lA | apply lN | apply lD | refine lS ?_ ‹_›) | exact HB.out))) : w.heap.size ≤ gb277)); have n7_ := n6_; have n8_ := Aside0.mk ((by rw [hg]; exact Nat.ne_of_lt (blk_lt (g := gb259) (o := .cells #[.int .u64 a0_0, .int .u64 a0_1] 58 (0, 0)) (by (with_reducible repeat (first | apply bN | apply bD | apply bA)); exact BK259.out)) : gb259 ≠ gb277)); have n9_ := sy n8_; have n10_ := Aside0.mk ((by rw [hg]; exact Nat.ne_of_lt (blk_lt (g := gb260) (o := .cells #[.int .u64 a1_0, .int .u64 a1_1] 58 (0, 0)) (by (with_reducible repeat (first | apply bN | apply bD | apply bA)); exact BK260.out)) : gb260 ≠ gb277)); have n11_ := sy n10_; have n12_ := Aside0.mk ((by rw [hg]; exact Nat.ne_of_lt (blk_lt (g := gb269) (o := .cells #[.int .u64 t266, .int .u64 t267] 58 (0, 0)) (by (with_reducible repeat (first | apply bN | apply bD | apply bA)); exact BK269.out)) : gb269 ≠ gb277)); have n13_ := sy n12_; have n14_ := Aside0.mk ((by rw [hg]; exact Nat.ne_of_lt (blk_lt (g := gb273) (o := .cells #[.int .u64 t270, .int .u64 t271] 58 (0, 0)) (by (with_reducible repeat (first | apply bN | apply bD | apply bA)); exact BK273.out)) : gb273 ≠ gb277)); have n15_ := sy n14_; clear BK259; clear BK260; clear BK269; clear BK273; clear HB; have BK259 := n0_; have BK260 := n1_; have BK269 := n2_; have BK273 := n3_; have HB := n4_; have BK277 := n5_; have GW277 := n6_; have GE277 := n7_; have NB259_277 := n8_; have NB277_259 := n9_; have NB260_277 := n10_; have NB277_260 := n11_; have NB269_277 := n12_; have NB277_269 := n13_; have NB273_277 := n14_; have NB277_273 := n15_; clear n0_ n1_ n2_ n3_ n4_ n5_ n6_ n7_ n8_ n9_ n10_ n11_ n12_ n13_ n14_ n15_; clear hb hbox hg; have hnb44 := NB277_259.out; have hnc44 := NB259_277.out; have hnb45 := NB277_260.out; have hnc45 := NB260_277.out; have hnb46 := NB277_269.out; have hnc46 := NB269_277.out; have hnb47 := NB277_273.out; have hnc47 := NB273_277.out; have hcz48_0 : w43.cell? ⟨gb277, 0, none⟩ = some (.int .u64 0) := (blk_cell BK277.out 0).trans rfl; have hcz48_1 : w43.cell? ⟨gb277, 1, none⟩ = some (.int .u64 0) := (blk_cell BK277.out 1).trans rfl; have hfz48_0 := blk_frozen BK277.out 0; have hfz48_1 := blk_frozen BK277.out 1; have hcz49_0 : w43.cell? ⟨gb269, 0, none⟩ = some (.int .u64 t266) := (blk_cell BK269.out 0).trans rfl; have hcz49_1 : w43.cell? ⟨gb269, 1, none⟩ = some (.int .u64 t267) := (blk_cell BK269.out 1).trans rfl; have hfz49_0 := blk_frozen BK269.out 0; have hfz49_1 := blk_frozen BK269.out 1))
      go_ret
      exact ⟨by first | rfl | (simp [errW_none, errW_some] <;> rfl) | (simp [*, errW_none, errW_some] <;> rfl), by repeat (first | (with_reducible first | exact HB.out | apply lA | apply lN | apply lD | refine lS ?_ ‹_›) | exact HB.out)⟩
     ·
      rw [if_neg c15] at H
      have c15b0 : decide (t262 < t265) = false := decide_eq_false c15; clear c15
      obtain rfl := Option.some.inj H
      go_enter Try.func8, Try.ntmps8
      try go_wp2_with (first | ((with_reducible refine gate_dst (N := 2) rfl ?_); refine box_event ?hg (N := 2) ?hd (cs := #[.int .u64 a0_0, .int .u64 a0_1]) (t := 58) ?hr ?_; (case hd => rfl); (case hg => rfl); (case hr => first | (go_simp; done) | (go_simp; rfl)); intro gb259 hg w50 hbox hb; have n0_ := Aside0.mk (below_step (by repeat (first | (with_reducible first | exact HB.out | apply lA | apply lN | apply lD) | exact HB.out)) hb); have n1_ := Aside0.mk (hbox); have n2_ := Aside0.mk ((by rw [hg]; exact (below_size (by repeat (first | (with_reducible first | exact HB.out | apply lA | apply lN | apply lD) | exact HB.out))) : w.heap.size ≤ gb259)); have n3_ := n2_; clear HB; have HB := n0_; have BK259 := n1_; have GW259 := n2_; have GE259 := n3_; clear n0_ n1_ n2_ n3_; clear hb hbox hg) | ((with_reducible refine gate_dst (N := 3) rfl ?_); refine box_event ?hg (N := 3) ?hd (cs := #[.int .u64 a1_0, .int .u64 a1_1]) (t := 58) ?hr ?_; (case hd => rfl); (case hg => rfl); (case hr => first | (go_simp; done) | (go_simp; rfl)); intro gb260 hg w51 hbox hb; have n0_ := Aside0.mk (blk_below (g := gb259) (o := .cells #[.int .u64 a0_0, .int .u64 a0_1] 58 (0, 0)) (by (with_reducible repeat (first | apply bN | apply bD | apply bA)); exact BK259.out) hb); have n1_ := Aside0.mk (below_step (by repeat (first | (with_reducible first | exact HB.out | apply lA | apply lN | apply lD | refine lS ?_ ‹_›) | exact HB.out)) hb); have n2_ := Aside0.mk (hbox); have n3_ := Aside0.mk ((by rw [hg]; exact (below_size (by repeat (first | (with_reducible first | exact HB.out | apply lA | apply lN | apply lD | refine lS ?_ ‹_›) | exact HB.out))) : w.heap.size ≤ gb260)); have n4_ := n3_; have n5_ := Aside0.mk ((by rw [hg]; exact Nat.ne_of_lt (blk_lt (g := gb259) (o := .cells #[.int .u64 a0_0, .int .u64 a0_1] 58 (0, 0)) (by (with_reducible repeat (first | apply bN | apply bD | apply bA)); exact BK259.out)) : gb259 ≠ gb260)); have n6_ := sy n5_; clear BK259; clear HB; have BK259 := n0_; have HB := n1_; have BK260 := n2_; have GW260 := n3_; have GE260 := n4_; have NB259_260 := n5_; have NB260_259 := n6_; clear n0_ n1_ n2_ n3_ n4_ n5_ n6_; clear hb hbox hg) | ((with_reducible refine gate_callee (f := 29) rfl ?_); refine goesL_ (some 15) rfl rfl Try.func29 (by kernel_rfl) rfl #[] rfl (by (try simp only [List.map_toArray, List.map_cons, List.map_nil]); first | done | rfl | (simp only [List.length_drop, List.length_take]; rfl)) ?_; (with_reducible refine (posternlaw15_first.calls k  true _ A3.out).mono ?_); rintro e w52 ⟨rfl, hb⟩; refine ⟨_, rfl, ?_⟩; have n0_ := Aside0.mk (blk_below (g := gb259) (o := .cells #[.int .u64 a0_0, .int .u64 a0_1] 58 (0, 0)) (by (with_reducible repeat (first | apply bN | apply bD | apply bA)); exact BK259.out) hb); have n1_ := Aside0.mk (blk_below (g := gb260) (o := .cells #[.int .u64 a1_0, .int .u64 a1_1] 58 (0, 0)) (by (with_reducible repeat (first | apply bN | apply bD | apply bA)); exact BK260.out) hb); have n2_ := Aside0.mk (below_step (by repeat (first | (with_reducible first | exact HB.out | apply lA | apply lN | apply lD | refine lS ?_ ‹_›) | exact HB.out)) hb); clear BK259; clear BK260; clear HB; have BK259 := n0_; have BK260 := n1_; have HB := n2_; clear n0_ n1_ n2_; (try clear hb); (try clear hb2); (try clear hk); (try clear hi)))
      have n0_ := Aside0.mk (blk_drew BK259.out); have n1_ := Aside0.mk (blk_drew BK260.out)
      have n2_ := Aside0.mk (below_drew1 HB.out)
      clear BK259; clear BK260; clear HB; have BK259 := n0_; have BK260 := n1_; have HB := n2_; clear n0_ n1_ n2_
      refine start_ (n := 12) (S := fun w' => w'.cell? ⟨gb259, 0, none⟩ = some (.int .u64 a0_0) ∧ w'.cell? ⟨gb259, 1, none⟩ = some (.int .u64 a0_1) ∧ w'.cell? ⟨gb260, 0, none⟩ = some (.int .u64 a1_0) ∧ w'.cell? ⟨gb260, 1, none⟩ = some (.int .u64 a1_1)) (ds := []) #[false, false, false, false, false, false, false, false, false, false, false, false] (by kernel_rfl) rfl rfl ⟨(blk_cell BK259.out 0).trans rfl, (blk_cell BK259.out 1).trans rfl, (blk_cell BK260.out 0).trans rfl, (blk_cell BK260.out 1).trans rfl⟩ (fun hHeld => ?_); refine with_tabW posternlaw15_SpanBest.tab3 posternlaw15_SpanBest.bits3 (fun HT_ HW_ => ?_)
      generalize w52.drew = w53 at BK259 BK260 HB hHeld ⊢
      refine take_ (i := 0) (N := some 17) (v := ?_) (a' := ?_) #[true, false, false, false, false, false, false, false, false, false, false, false] rfl rfl (take_ofW HT_.out HW_.out (by kernel_rfl)) (fun _ _ _ h => h) (Or.inl ⟨by rfl, ?_⟩) hHeld ?_ ?_
      rotate_left
      ·
       rintro w' ⟨s0, s1, s2, s3⟩
       go_simp; with_reducible rfl
      rotate_left
      ·
       simp only [Act.put, List.setIfInBounds_toArray, List.set_cons_zero, List.set_cons_succ, i64_w, i32_w]
       rfl
      refine take_ (i := 2) (N := some 19) (v := ?_) (a' := ?_) #[true, false, true, false, false, false, false, false, false, false, false, false] rfl rfl (take_ofW HT_.out HW_.out (by kernel_rfl)) (fun _ _ _ h => h) (Or.inl ⟨by rfl, ?_⟩) hHeld ?_ ?_
      rotate_left
      ·
       rintro w' ⟨s0, s1, s2, s3⟩
       go_simp; with_reducible rfl
      rotate_left
      ·
       simp only [Act.put, List.setIfInBounds_toArray, List.set_cons_zero, List.set_cons_succ, i64_w, i32_w]
       rfl
      refine take_ (i := 4) (N := some 21) (v := ?_) (a' := ?_) #[true, false, true, false, true, false, false, false, false, false, false, false] rfl rfl (take_ofW HT_.out HW_.out (by kernel_rfl)) (fun _ _ _ h => h) (Or.inl ⟨by rfl, ?_⟩) hHeld ?_ ?_
      rotate_left
      ·
       rintro w' ⟨s0, s1, s2, s3⟩
       go_simp; with_reducible rfl
      rotate_left
      ·
       simp only [Act.put, List.setIfInBounds_toArray, List.set_cons_zero, List.set_cons_succ, i64_w, i32_w]
       rfl
      refine take_ (i := 6) (N := some 23) (v := ?_) (a' := ?_) #[true, false, true, false, true, false, true, false, false, false, false, false] rfl rfl (take_ofW HT_.out HW_.out (by kernel_rfl)) (fun _ _ _ h => h) (Or.inl ⟨by rfl, ?_⟩) hHeld ?_ ?_
      rotate_left
      ·
       rintro w' ⟨s0, s1, s2, s3⟩
       go_simp; with_reducible rfl
      rotate_left
      ·
       simp only [Act.put, List.setIfInBounds_toArray, List.set_cons_zero, List.set_cons_succ, i64_w, i32_w]
       rfl
      refine one_ (i := 1) (N := some 18) #[true, true, true, false, true, false, true, false, false, false, false, false] rfl rfl (one_of HT_.out (by kernel_rfl)) (by decide) (fun K hK => ?_)
      refine goes_ Try.func30 (by kernel_rfl) rfl #[.agg #[.int .u64 a0_0, .int .u64 a0_1]] (by rfl) rfl rfl (by (try simp only [List.map_toArray, List.map_cons, List.map_nil]); first | done | rfl | (simp only [List.length_drop, List.length_take]; rfl)) ?_
      with_reducible refine (posternref15_Lo.calls a0_0 a0_1 t262 _ A5.out).mono ?_
      rintro e w54 ⟨rfl, hb⟩
      refine ⟨_, rfl, ?_⟩
      have n0_ := Aside0.mk (blk_below (g := gb259) (o := .cells #[.int .u64 a0_0, .int .u64 a0_1] 58 (0, 0)) (by (with_reducible repeat (first | apply bN | apply bD | apply bA)); exact BK259.out) hb)
      have n1_ := Aside0.mk (blk_below (g := gb260) (o := .cells #[.int .u64 a1_0, .int .u64 a1_1] 58 (0, 0)) (by (with_reducible repeat (first | apply bN | apply bD | apply bA)); exact BK260.out) hb)
      have n2_ := Aside0.mk (below_step (by repeat (first | (with_reducible first | exact HB.out | apply lA | apply lN | apply lD | refine lS ?_ ‹_›) | exact HB.out)) hb)
      clear BK259; clear BK260; clear HB; have BK259 := n0_; have BK260 := n1_; have HB := n2_; clear n0_ n1_ n2_
      (try clear hb)
      (try clear hb2)
      (try clear hk)
      (try clear hi)
      refine hK.out _ _ ⟨(blk_cell BK259.out 0).trans rfl, (blk_cell BK259.out 1).trans rfl, (blk_cell BK260.out 0).trans rfl, (blk_cell BK260.out 1).trans rfl⟩ (fun hHeld => ?_)
      clear hK K
      refine norm_ (a' := ?_) ?_ ?_
      rotate_left
      ·
       show Act.put _ (some 18) _ = _
       simp only [Act.put, List.setIfInBounds_toArray, List.set_cons_zero, List.set_cons_succ, i64_w, i32_w]
       rfl
      refine one_ (i := 3) (N := some 20) #[true, true, true, true, true, false, true, false, false, false, false, false] rfl rfl (one_of HT_.out (by kernel_rfl)) (by decide) (fun K hK => ?_)
      refine goes_ Try.func31 (by kernel_rfl) rfl #[.agg #[.int .u64 a0_0, .int .u64 a0_1]] (by rfl) rfl rfl (by (try simp only [List.map_toArray, List.map_cons, List.map_nil]); first | done | rfl | (simp only [List.length_drop, List.length_take]; rfl)) ?_
      with_reducible refine (posternref15_Hi.calls a0_0 a0_1 t263 _ A6.out).mono ?_
      rintro e w55 ⟨rfl, hb⟩
      refine ⟨_, rfl, ?_⟩
      have n0_ := Aside0.mk (blk_below (g := gb259) (o := .cells #[.int .u64 a0_0, .int .u64 a0_1] 58 (0, 0)) (by (with_reducible repeat (first | apply bN | apply bD | apply bA)); exact BK259.out) hb)
      have n1_ := Aside0.mk (blk_below (g := gb260) (o := .cells #[.int .u64 a1_0, .int .u64 a1_1] 58 (0, 0)) (by (with_reducible repeat (first | apply bN | apply bD | apply bA)); exact BK260.out) hb)
      have n2_ := Aside0.mk (below_step (by repeat (first | (with_reducible first | exact HB.out | apply lA | apply lN | apply lD | refine lS ?_ ‹_›) | exact HB.out)) hb)
      clear BK259; clear BK260; clear HB; have BK259 := n0_; have BK260 := n1_; have HB := n2_; clear n0_ n1_ n2_
      (try clear hb)
      (try clear hb2)
      (try clear hk)
      (try clear hi)
      refine hK.out _ _ ⟨(blk_cell BK259.out 0).trans rfl, (blk_cell BK259.out 1).trans rfl, (blk_cell BK260.out 0).trans rfl, (blk_cell BK260.out 1).trans rfl⟩ (fun hHeld => ?_)
      clear hK K
      refine norm_ (a' := ?_) ?_ ?_
      rotate_left
      ·
       show Act.put _ (some 20) _ = _
       simp only [Act.put, List.setIfInBounds_toArray, List.set_cons_zero, List.set_cons_succ, i64_w, i32_w]
       rfl
      refine one_ (i := 5) (N := some 22) #[true, true, true, true, true, true, true, false, false, false, false, false] rfl rfl (one_of HT_.out (by kernel_rfl)) (by decide) (fun K hK => ?_)
      refine goes_ Try.func30 (by kernel_rfl) rfl #[.agg #[.int .u64 a1_0, .int .u64 a1_1]] (by rfl) rfl rfl (by (try simp only [List.map_toArray, List.map_cons, List.map_nil]); first | done | rfl | (simp only [List.length_drop, List.length_take]; rfl)) ?_
      with_reducible refine (posternref15_Lo.calls a1_0 a1_1 t264 _ A7.out).mono ?_
      rintro e w56 ⟨rfl, hb⟩
      refine ⟨_, rfl, ?_⟩
      have n0_ := Aside0.mk (blk_below (g := gb259) (o := .cells #[.int .u64 a0_0, .int .u64 a0_1] 58 (0, 0)) (by (with_reducible repeat (first | apply bN | apply bD | apply bA)); exact BK259.out) hb)
      have n1_ := Aside0.mk (blk_below (g := gb260) (o := .cells #[.int .u64 a1_0, .int .u64 a1_1] 58 (0, 0)) (by (with_reducible repeat (first | apply bN | apply bD | apply bA)); exact BK260.out) hb)
      have n2_ := Aside0.mk (below_step (by repeat (first | (with_reducible first | exact HB.out | apply lA | apply lN | apply lD | refine lS ?_ ‹_›) | exact HB.out)) hb)
      clear BK259; clear BK260; clear HB; have BK259 := n0_; have BK260 := n1_; have HB := n2_; clear n0_ n1_ n2_
      (try clear hb)
      (try clear hb2)
      (try clear hk)
      (try clear hi)
      refine hK.out _ _ ⟨(blk_cell BK259.out 0).trans rfl, (blk_cell BK259.out 1).trans rfl, (blk_cell BK260.out 0).trans rfl, (blk_cell BK260.out 1).trans rfl⟩ (fun hHeld => ?_)
      clear hK K
      refine norm_ (a' := ?_) ?_ ?_
      rotate_left
      ·
       show Act.put _ (some 22) _ = _
       simp only [Act.put, List.setIfInBounds_toArray, List.set_cons_zero, List.set_cons_succ, i64_w, i32_w]
       rfl
      refine one_ (i := 7) (N := some 24) #[true, true, true, true, true, true, true, true, false, false, false, false] rfl rfl (one_of HT_.out (by kernel_rfl)) (by decide) (fun K hK => ?_)
      refine goes_ Try.func31 (by kernel_rfl) rfl #[.agg #[.int .u64 a1_0, .int .u64 a1_1]] (by rfl) rfl rfl (by (try simp only [List.map_toArray, List.map_cons, List.map_nil]); first | done | rfl | (simp only [List.length_drop, List.length_take]; rfl)) ?_
      with_reducible refine (posternref15_Hi.calls a1_0 a1_1 t265 _ A8.out).mono ?_
      rintro e w57 ⟨rfl, hb⟩
      refine ⟨_, rfl, ?_⟩
      have n0_ := Aside0.mk (blk_below (g := gb259) (o := .cells #[.int .u64 a0_0, .int .u64 a0_1] 58 (0, 0)) (by (with_reducible repeat (first | apply bN | apply bD | apply bA)); exact BK259.out) hb)
      have n1_ := Aside0.mk (blk_below (g := gb260) (o := .cells #[.int .u64 a1_0, .int .u64 a1_1] 58 (0, 0)) (by (with_reducible repeat (first | apply bN | apply bD | apply bA)); exact BK260.out) hb)
      have n2_ := Aside0.mk (below_step (by repeat (first | (with_reducible first | exact HB.out | apply lA | apply lN | apply lD | refine lS ?_ ‹_›) | exact HB.out)) hb)
      clear BK259; clear BK260; clear HB; have BK259 := n0_; have BK260 := n1_; have HB := n2_; clear n0_ n1_ n2_
      (try clear hb)
      (try clear hb2)
      (try clear hk)
      (try clear hi)
      refine hK.out _ _ ⟨(blk_cell BK259.out 0).trans rfl, (blk_cell BK259.out 1).trans rfl, (blk_cell BK260.out 0).trans rfl, (blk_cell BK260.out 1).trans rfl⟩ (fun hHeld => ?_)
      clear hK K
      refine norm_ (a' := ?_) ?_ ?_
      rotate_left
      ·
       show Act.put _ (some 24) _ = _
       simp only [Act.put, List.setIfInBounds_toArray, List.set_cons_zero, List.set_cons_succ, i64_w, i32_w]
       rfl
      refine pure_ (i := 8) (N := some 5) (v := ?_) (a' := ?_) #[true, true, true, true, true, true, true, true, true, false, false, false] rfl rfl (any_of HT_.out (by kernel_rfl)) (fun _ _ _ h => h) (Or.inl ⟨by rfl, ?_⟩) ?_ ?_
      rotate_left
      ·
       intro w'
       go_simp; with_reducible rfl
      rotate_left
      ·
       simp only [Act.put, List.setIfInBounds_toArray, List.set_cons_zero, List.set_cons_succ, i64_w, i32_w]
       rfl
      refine pure_ (i := 9) (N := some 6) (v := ?_) (a' := ?_) #[true, true, true, true, true, true, true, true, true, true, false, false] rfl rfl (any_of HT_.out (by kernel_rfl)) (fun _ _ _ h => h) (Or.inl ⟨by rfl, ?_⟩) ?_ ?_
      rotate_left
      ·
       intro w'
       go_simp; with_reducible rfl
      rotate_left
      ·
       simp only [Act.put, List.setIfInBounds_toArray, List.set_cons_zero, List.set_cons_succ, i64_w, i32_w]
       rfl
      refine pure_ (i := 10) (N := some 7) (v := ?_) (a' := ?_) #[true, true, true, true, true, true, true, true, true, true, true, false] rfl rfl (any_of HT_.out (by kernel_rfl)) (fun _ _ _ h => h) (Or.inl ⟨by rfl, ?_⟩) ?_ ?_
      rotate_left
      ·
       intro w'
       go_simp; with_reducible rfl
      rotate_left
      ·
       simp only [Act.put, List.setIfInBounds_toArray, List.set_cons_zero, List.set_cons_succ, i64_w, i32_w]
       rfl
      refine pure_ (i := 11) (N := some 8) (v := ?_) (a' := ?_) #[true, true, true, true, true, true, true, true, true, true, true, true] rfl rfl (any_of HT_.out (by kernel_rfl)) (fun _ _ _ h => h) (Or.inl ⟨by rfl, ?_⟩) ?_ ?_
      rotate_left
      ·
       intro w'
       go_simp; with_reducible rfl
      rotate_left
      ·
       simp only [Act.put, List.setIfInBounds_toArray, List.set_cons_zero, List.set_cons_succ, i64_w, i32_w]
       rfl
      refine done_ (done_of HT_.out (by kernel_rfl)) ?_
      have hnb58 := NB259_260.out; have hnc58 := NB260_259.out; have hcz59_0 : w57.cell? ⟨gb259, 0, none⟩ = some (.int .u64 a0_0) := (blk_cell BK259.out 0).trans rfl; have hcz59_1 : w57.cell? ⟨gb259, 1, none⟩ = some (.int .u64 a0_1) := (blk_cell BK259.out 1).trans rfl; have hfz59_0 := blk_frozen BK259.out 0; have hfz59_1 := blk_frozen BK259.out 1; have hcz60_0 : w57.cell? ⟨gb260, 0, none⟩ = some (.int .u64 a1_0) := (blk_cell BK260.out 0).trans rfl; have hcz60_1 : w57.cell? ⟨gb260, 1, none⟩ = some (.int .u64 a1_1) := (blk_cell BK260.out 1).trans rfl; have hfz60_0 := blk_frozen BK260.out 0; have hfz60_1 := blk_frozen BK260.out 1
      try go_wp2_with (first | ((with_reducible refine gate_callee (f := 32) rfl ?_); refine goesL_ (some 28) rfl rfl Try.func32 (by kernel_rfl) rfl #[.int .i64 0, .bool true, .agg #[.int .u64 a0_0, .int .u64 a0_1], .agg #[.int .u64 a1_0, .int .u64 a1_1]] rfl (by (try simp only [List.map_toArray, List.map_cons, List.map_nil]); first | done | rfl | (simp only [List.length_drop, List.length_take]; rfl)) ?_; (with_reducible refine (span_Do.calls k 0 true a0_0 a0_1 a1_0 a1_1 t266 t267 t268 _ A9.out).mono ?_); rintro e w61 ⟨rfl, hb⟩; refine ⟨_, rfl, ?_⟩; have n0_ := Aside0.mk (blk_below (g := gb259) (o := .cells #[.int .u64 a0_0, .int .u64 a0_1] 58 (0, 0)) (by (with_reducible repeat (first | apply bN | apply bD | apply bA)); exact BK259.out) hb); have n1_ := Aside0.mk (blk_below (g := gb260) (o := .cells #[.int .u64 a1_0, .int .u64 a1_1] 58 (0, 0)) (by (with_reducible repeat (first | apply bN | apply bD | apply bA)); exact BK260.out) hb); have n2_ := Aside0.mk (below_step (by repeat (first | (with_reducible first | exact HB.out | apply lA | apply lN | apply lD | refine lS ?_ ‹_›) | exact HB.out)) hb); clear BK259; clear BK260; clear HB; have BK259 := n0_; have BK260 := n1_; have HB := n2_; clear n0_ n1_ n2_; (try clear hb); (try clear hb2); (try clear hk); (try clear hi)) | ((with_reducible refine gate_dst (N := 9) rfl ?_); refine box_event ?hg (N := 9) ?hd (cs := #[.int .u64 0, .int .u64 0]) (t := 58) ?hr ?_; (case hd => rfl); (case hg => rfl); (case hr => first | (go_simp; done) | (go_simp; rfl)); intro gb269 hg w62 hbox hb; have n0_ := Aside0.mk (blk_below (g := gb259) (o := .cells #[.int .u64 a0_0, .int .u64 a0_1] 58 (0, 0)) (by (with_reducible repeat (first | apply bN | apply bD | apply bA)); exact BK259.out) hb); have n1_ := Aside0.mk (blk_below (g := gb260) (o := .cells #[.int .u64 a1_0, .int .u64 a1_1] 58 (0, 0)) (by (with_reducible repeat (first | apply bN | apply bD | apply bA)); exact BK260.out) hb); have n2_ := Aside0.mk (below_step (by repeat (first | (with_reducible first | exact HB.out | apply lA | apply lN | apply lD | refine lS ?_ ‹_›) | exact HB.out)) hb); have n3_ := Aside0.mk (hbox); have n4_ := Aside0.mk ((by rw [hg]; exact (below_size (by repeat (first | (with_reducible first | exact HB.out | apply lA | apply lN | apply lD | refine lS ?_ ‹_›) | exact HB.out))) : w.heap.size ≤ gb269)); have n5_ := n4_; have n6_ := Aside0.mk ((by rw [hg]; exact Nat.ne_of_lt (blk_lt (g := gb259) (o := .cells #[.int .u64 a0_0, .int .u64 a0_1] 58 (0, 0)) (by (with_reducible repeat (first | apply bN | apply bD | apply bA)); exact BK259.out)) : gb259 ≠ gb269)); have n7_ := sy n6_; have n8_ := Aside0.mk ((by rw [hg]; exact Nat.ne_of_lt (blk_lt (g := gb260) (o := .cells #[.int .u64 a1_0, .int .u64 a1_1] 58 (0, 0)) (by (with_reducible repeat (first | apply bN | apply bD | apply bA)); exact BK260.out)) : gb260 ≠ gb269)); have n9_ := sy n8_; clear BK259; clear BK260; clear HB; have BK259 := n0_; have BK260 := n1_; have HB := n2_; have BK269 := n3_; have GW269 := n4_; have GE269 := n5_; have NB259_269 := n6_; have NB269_259 := n7_; have NB260_269 := n8_; have NB269_260 := n9_; clear n0_ n1_ n2_ n3_ n4_ n5_ n6_ n7_ n8_ n9_; clear hb hbox hg; have hnb63 := NB269_259.out; have hnc63 := NB259_269.out; have hnb64 := NB269_260.out; have hnc64 := NB260_269.out; have hcz65_0 : w62.cell? ⟨gb269, 0, none⟩ = some (.int .u64 0) := (blk_cell BK269.out 0).trans rfl; have hcz65_1 : w62.cell? ⟨gb269, 1, none⟩ = some (.int .u64 0) := (blk_cell BK269.out 1).trans rfl; have hfz65_0 := blk_frozen BK269.out 0; have hfz65_1 := blk_frozen BK269.out 1; have hcz66_0 : w62.cell? ⟨gb259, 0, none⟩ = some (.int .u64 a0_0) := (blk_cell BK259.out 0).trans rfl; have hcz66_1 : w62.cell? ⟨gb259, 1, none⟩ = some (.int .u64 a0_1) := (blk_cell BK259.out 1).trans rfl; have hfz66_0 := blk_frozen BK259.out 0; have hfz66_1 := blk_frozen BK259.out 1; have hcz67_0 : w62.cell? ⟨gb260, 0, none⟩ = some (.int .u64 a1_0) := (blk_cell BK260.out 0).trans rfl; have hcz67_1 : w62.cell? ⟨gb260, 1, none⟩ = some (.int .u64 a1_1) := (blk_cell BK260.out 1).trans rfl; have hfz67_0 := blk_frozen BK260.out 0; have hfz67_1 := blk_frozen BK260.out 1) | ((with_reducible refine gate_callee (f := 32) rfl ?_); refine goesL_ (some 34) rfl rfl Try.func32 (by kernel_rfl) rfl #[.int .i64 16, .bool true, .agg #[.int .u64 a0_0, .int .u64 a0_1], .agg #[.int .u64 a1_0, .int .u64 a1_1]] rfl (by (try simp only [List.map_toArray, List.map_cons, List.map_nil]); first | done | rfl | (simp only [List.length_drop, List.length_take]; rfl)) ?_; (with_reducible refine (span_Do.calls k 16 true a0_0 a0_1 a1_0 a1_1 t270 t271 t272 _ A10.out).mono ?_); rintro e w68 ⟨rfl, hb⟩; refine ⟨_, rfl, ?_⟩; have n0_ := Aside0.mk (blk_below (g := gb259) (o := .cells #[.int .u64 a0_0, .int .u64 a0_1] 58 (0, 0)) (by (with_reducible repeat (first | apply bN | apply bD | apply bA)); refine blk_far ?_ NB259_269.out _; (with_reducible repeat (first | apply bN | apply bD | apply bA)); refine blk_far ?_ NB259_269.out _; (with_reducible repeat (first | apply bN | apply bD | apply bA)); exact BK259.out) hb); have n1_ := Aside0.mk (blk_below (g := gb260) (o := .cells #[.int .u64 a1_0, .int .u64 a1_1] 58 (0, 0)) (by (with_reducible repeat (first | apply bN | apply bD | apply bA)); refine blk_far ?_ NB260_269.out _; (with_reducible repeat (first | apply bN | apply bD | apply bA)); refine blk_far ?_ NB260_269.out _; (with_reducible repeat (first | apply bN | apply bD | apply bA)); exact BK260.out) hb); have n2_ := Aside0.mk (blk_below (g := gb269) (o := .cells #[.int .u64 t266, .int .u64 t267] 58 (0, 0)) (by (with_reducible repeat (first | apply bN | apply bD | apply bA)); refine blk_put (cs := #[.int .u64 t266, .int .u64 0]) ?_ 1 _ rfl; (with_reducible repeat (first | apply bN | apply bD | apply bA)); refine blk_put (cs := #[.int .u64 0, .int .u64 0]) ?_ 0 _ rfl; (with_reducible repeat (first | apply bN | apply bD | apply bA)); exact BK269.out) hb); have n3_ := Aside0.mk (below_step (by repeat (first | (with_reducible first | exact HB.out | apply lA | apply lN | apply lD | refine lS ?_ ‹_›) | exact HB.out)) hb); clear BK259; clear BK260; clear BK269; clear HB; have BK259 := n0_; have BK260 := n1_; have BK269 := n2_; have HB := n3_; clear n0_ n1_ n2_ n3_; (try clear hb); (try clear hb2); (try clear hk); (try clear hi)) | ((with_reducible refine gate_dst (N := 11) rfl ?_); refine box_event ?hg (N := 11) ?hd (cs := #[.int .u64 0, .int .u64 0]) (t := 58) ?hr ?_; (case hd => rfl); (case hg => rfl); (case hr => first | (go_simp; done) | (go_simp; rfl)); intro gb273 hg w69 hbox hb; have n0_ := Aside0.mk (blk_below (g := gb259) (o := .cells #[.int .u64 a0_0, .int .u64 a0_1] 58 (0, 0)) (by (with_reducible repeat (first | apply bN | apply bD | apply bA)); exact BK259.out) hb); have n1_ := Aside0.mk (blk_below (g := gb260) (o := .cells #[.int .u64 a1_0, .int .u64 a1_1] 58 (0, 0)) (by (with_reducible repeat (first | apply bN | apply bD | apply bA)); exact BK260.out) hb); have n2_ := Aside0.mk (blk_below (g := gb269) (o := .cells #[.int .u64 t266, .int .u64 t267] 58 (0, 0)) (by (with_reducible repeat (first | apply bN | apply bD | apply bA)); exact BK269.out) hb); have n3_ := Aside0.mk (below_step (by repeat (first | (with_reducible first | exact HB.out | apply lA | apply lN | apply lD | refine lS ?_ ‹_›) | exact HB.out)) hb); have n4_ := Aside0.mk (hbox); have n5_ := Aside0.mk ((by rw [hg]; exact (below_size (by repeat (first | (with_reducible first | exact HB.out | apply lA | apply lN | apply lD | refine lS ?_ ‹_›) | exact HB.out))) : w.heap.size ≤ gb273)); have n6_ := n5_; have n7_ := Aside0.mk ((by rw [hg]; exact Nat.ne_of_lt (blk_lt (g := gb259) (o := .cells #[.int .u64 a0_0, .int .u64 a0_1] 58 (0, 0)) (by (with_reducible repeat (first | apply bN | apply bD | apply bA)); exact BK259.out)) : gb259 ≠ gb273)); have n8_ := sy n7_; have n9_ := Aside0.mk ((by rw [hg]; exact Nat.ne_of_lt (blk_lt (g := gb260) (o := .cells #[.int .u64 a1_0, .int .u64 a1_1] 58 (0, 0)) (by (with_reducible repeat (first | apply bN | apply bD | apply bA)); exact BK260.out)) : gb260 ≠ gb273)); have n10_ := sy n9_; have n11_ := Aside0.mk ((by rw [hg]; exact Nat.ne_of_lt (blk_lt (g := gb269) (o := .cells #[.int .u64 t266, .int .u64 t267] 58 (0, 0)) (by (with_reducible repeat (first | apply bN | apply bD | apply bA)); exact BK269.out)) : gb269 ≠ gb273)); have n12_ := sy n11_; clear BK259; clear BK260; clear BK269; clear HB; have BK259 := n0_; have BK260 := n1_; have BK269 := n2_; have HB := n3_; have BK273 := n4_; have GW273 := n5_; have GE273 := n6_; have NB259_273 := n7_; have NB273_259 := n8_; have NB260_273 := n9_; have NB273_260 := n10_; have NB269_273 := n11_; have NB273_269 := n12_; clear n0_ n1_ n2_ n3_ n4_ n5_ n6_ n7_ n8_ n9_ n10_ n11_ n12_; clear hb hbox hg; have hnb70 := NB273_259.out; have hnc70 := NB259_273.out; have hnb71 := NB273_260.out; have hnc71 := NB260_273.out; have hnb72 := NB273_269.out; have hnc72 := NB269_273.out; have hcz73_0 : w69.cell? ⟨gb273, 0, none⟩ = some (.int .u64 0) := (blk_cell BK273.out 0).trans rfl; have hcz73_1 : w69.cell? ⟨gb273, 1, none⟩ = some (.int .u64 0) := (blk_cell BK273.out 1).trans rfl; have hfz73_0 := blk_frozen BK273.out 0; have hfz73_1 := blk_frozen BK273.out 1; have hcz74_0 : w69.cell? ⟨gb259, 0, none⟩ = some (.int .u64 a0_0) := (blk_cell BK259.out 0).trans rfl; have hcz74_1 : w69.cell? ⟨gb259, 1, none⟩ = some (.int .u64 a0_1) := (blk_cell BK259.out 1).trans rfl; have hfz74_0 := blk_frozen BK259.out 0; have hfz74_1 := blk_frozen BK259.out 1; have hcz75_0 : w69.cell? ⟨gb260, 0, none⟩ = some (.int .u64 a1_0) := (blk_cell BK260.out 0).trans rfl; have hcz75_1 : w69.cell? ⟨gb260, 1, none⟩ = some (.int .u64 a1_1) := (blk_cell BK260.out 1).trans rfl; have hfz75_0 := blk_frozen BK260.out 0; have hfz75_1 := blk_frozen BK260.out 1) | ((with_reducible refine gate_callee (f := 32) rfl ?_); refine goesL_ (some 40) rfl rfl Try.func32 (by kernel_rfl) rfl #[.int .i64 176, .bool true, .agg #[.int .u64 a0_0, .int .u64 a0_1], .agg #[.int .u64 a1_0, .int .u64 a1_1]] rfl (by (try simp only [List.map_toArray, List.map_cons, List.map_nil]); first | done | rfl | (simp only [List.length_drop, List.length_take]; rfl)) ?_; (with_reducible refine (span_Do.calls k 176 true a0_0 a0_1 a1_0 a1_1 t274 t275 t276 _ A11.out).mono ?_); rintro e w76 ⟨rfl, hb⟩; refine ⟨_, rfl, ?_⟩; have n0_ := Aside0.mk (blk_below (g := gb259) (o := .cells #[.int .u64 a0_0, .int .u64 a0_1] 58 (0, 0)) (by (with_reducible repeat (first | apply bN | apply bD | apply bA)); refine blk_far ?_ NB259_273.out _; (with_reducible repeat (first | apply bN | apply bD | apply bA)); refine blk_far ?_ NB259_273.out _; (with_reducible repeat (first | apply bN | apply bD | apply bA)); exact BK259.out) hb); have n1_ := Aside0.mk (blk_below (g := gb260) (o := .cells #[.int .u64 a1_0, .int .u64 a1_1] 58 (0, 0)) (by (with_reducible repeat (first | apply bN | apply bD | apply bA)); refine blk_far ?_ NB260_273.out _; (with_reducible repeat (first | apply bN | apply bD | apply bA)); refine blk_far ?_ NB260_273.out _; (with_reducible repeat (first | apply bN | apply bD | apply bA)); exact BK260.out) hb); have n2_ := Aside0.mk (blk_below (g := gb269) (o := .cells #[.int .u64 t266, .int .u64 t267] 58 (0, 0)) (by (with_reducible repeat (first | apply bN | apply bD | apply bA)); refine blk_far ?_ NB269_273.out _; (with_reducible repeat (first | apply bN | apply bD | apply bA)); refine blk_far ?_ NB269_273.out _; (with_reducible repeat (first | apply bN | apply bD | apply bA)); exact BK269.out) hb); have n3_ := Aside0.mk (blk_below (g := gb273) (o := .cells #[.int .u64 t270, .int .u64 t271] 58 (0, 0)) (by (with_reducible repeat (first | apply bN | apply bD | apply bA)); refine blk_put (cs := #[.int .u64 t270, .int .u64 0]) ?_ 1 _ rfl; (with_reducible repeat (first | apply bN | apply bD | apply bA)); refine blk_put (cs := #[.int .u64 0, .int .u64 0]) ?_ 0 _ rfl; (with_reducible repeat (first | apply bN | apply bD | apply bA)); exact BK273.out) hb); have n4_ := Aside0.mk (below_step (by repeat (first | (with_reducible first | exact HB.out | apply lA | apply lN | apply lD | refine lS ?_ ‹_›) | exact HB.out)) hb); clear BK259; clear BK260; clear BK269; clear BK273; clear HB; have BK259 := n0_; have BK260 := n1_; have BK269 := n2_; have BK273 := n3_; have HB := n4_; clear n0_ n1_ n2_ n3_ n4_; (try clear hb); (try clear hb2); (try clear hk); (try clear hi)) | ((with_reducible refine gate_dst (N := 13) rfl ?_); refine box_event ?hg (N := 13) ?hd (cs := #[.int .u64 0, .int .u64 0]) (t := 58) ?hr ?_; (case hd => rfl); (case hg => rfl); (case hr => first | (go_simp; done) | (go_simp; rfl)); intro gb277 hg w77 hbox hb; have n0_ := Aside0.mk (blk_below (g := gb259) (o := .cells #[.int .u64 a0_0, .int .u64 a0_1] 58 (0, 0)) (by (with_reducible repeat (first | apply bN | apply bD | apply bA)); exact BK259.out) hb); have n1_ := Aside0.mk (blk_below (g := gb260) (o := .cells #[.int .u64 a1_0, .int .u64 a1_1] 58 (0, 0)) (by (with_reducible repeat (first | apply bN | apply bD | apply bA)); exact BK260.out) hb); have n2_ := Aside0.mk (blk_below (g := gb269) (o := .cells #[.int .u64 t266, .int .u64 t267] 58 (0, 0)) (by (with_reducible repeat (first | apply bN | apply bD | apply bA)); exact BK269.out) hb); have n3_ := Aside0.mk (blk_below (g := gb273) (o := .cells #[.int .u64 t270, .int .u64 t271] 58 (0, 0)) (by (with_reducible repeat (first | apply bN | apply bD | apply bA)); exact BK273.out) hb); have n4_ := Aside0.mk (below_step (by repeat (first | (with_reducible first | exact HB.out | apply lA | apply lN | apply lD | refine lS ?_ ‹_›) | exact HB.out)) hb); have n5_ := Aside0.mk (hbox); have n6_ := Aside0.mk ((by rw [hg]; exact (below_size (by repeat (first | (with_reducible first | exact HB.out | apply lA | apply lN | apply lD | refine lS ?_ ‹_›) | exact HB.out))) : w.heap.size ≤ gb277)); have n7_ := n6_; have n8_ := Aside0.mk ((by rw [hg]; exact Nat.ne_of_lt (blk_lt (g := gb259) (o := .cells #[.int .u64 a0_0, .int .u64 a0_1] 58 (0, 0)) (by (with_reducible repeat (first | apply bN | apply bD | apply bA)); exact BK259.out)) : gb259 ≠ gb277)); have n9_ := sy n8_; have n10_ := Aside0.mk ((by rw [hg]; exact Nat.ne_of_lt (blk_lt (g := gb260) (o := .cells #[.int .u64 a1_0, .int .u64 a1_1] 58 (0, 0)) (by (with_reducible repeat (first | apply bN | apply bD | apply bA)); exact BK260.out)) : gb260 ≠ gb277)); have n11_ := sy n10_; have n12_ := Aside0.mk ((by rw [hg]; exact Nat.ne_of_lt (blk_lt (g := gb269) (o := .cells #[.int .u64 t266, .int .u64 t267] 58 (0, 0)) (by (with_reducible repeat (first | apply bN | apply bD | apply bA)); exact BK269.out)) : gb269 ≠ gb277)); have n13_ := sy n12_; have n14_ := Aside0.mk ((by rw [hg]; exact Nat.ne_of_lt (blk_lt (g := gb273) (o := .cells #[.int .u64 t270, .int .u64 t271] 58 (0, 0)) (by (with_reducible repeat (first | apply bN | apply bD | apply bA)); exact BK273.out)) : gb273 ≠ gb277)); have n15_ := sy n14_; clear BK259; clear BK260; clear BK269; clear BK273; clear HB; have BK259 := n0_; have BK260 := n1_; have BK269 := n2_; have BK273 := n3_; have HB := n4_; have BK277 := n5_; have GW277 := n6_; have GE277 := n7_; have NB259_277 := n8_; have NB277_259 := n9_; have NB260_277 := n10_; have NB277_260 := n11_; have NB269_277 := n12_; have NB277_269 := n13_; have NB273_277 := n14_; have NB277_273 := n15_; clear n0_ n1_ n2_ n3_ n4_ n5_ n6_ n7_ n8_ n9_ n10_ n11_ n12_ n13_ n14_ n15_; clear hb hbox hg; have hnb78 := NB277_259.out; have hnc78 := NB259_277.out; have hnb79 := NB277_260.out; have hnc79 := NB260_277.out; have hnb80 := NB277_269.out; have hnc80 := NB269_277.out; have hnb81 := NB277_273.out; have hnc81 := NB273_277.out; have hcz82_0 : w77.cell? ⟨gb277, 0, none⟩ = some (.int .u64 0) := (blk_cell BK277.out 0).trans rfl; have hcz82_1 : w77.cell? ⟨gb277, 1, none⟩ = some (.int .u64 0) := (blk_cell BK277.out 1).trans rfl; have hfz82_0 := blk_frozen BK277.out 0; have hfz82_1 := blk_frozen BK277.out 1; have hcz83_0 : w77.cell? ⟨gb269, 0, none⟩ = some (.int .u64 t266) := (blk_cell BK269.out 0).trans rfl; have hcz83_1 : w77.cell? ⟨gb269, 1, none⟩ = some (.int .u64 t267) := (blk_cell BK269.out 1).trans rfl; have hfz83_0 := blk_frozen BK269.out 0; have hfz83_1 := blk_frozen BK269.out 1; have hcz84_0 : w77.cell? ⟨gb273, 0, none⟩ = some (.int .u64 t270) := (blk_cell BK273.out 0).trans rfl; have hcz84_1 : w77.cell? ⟨gb273, 1, none⟩ = some (.int .u64 t271) := (blk_cell BK273.out 1).trans rfl; have hfz84_0 := blk_frozen BK273.out 0; have hfz84_1 := blk_frozen BK273.out 1))
      go_ret
      exact ⟨by first | rfl | (simp [errW_none, errW_some] <;> rfl) | (simp [*, errW_none, errW_some] <;> rfl), by repeat (first | (with_reducible first | exact HB.out | apply lA | apply lN | apply lD | refine lS ?_ ‹_›) | exact HB.out)⟩
   ·
    rw [if_neg c13] at H
    have c13b0 : decide (t263 ≤ (IntKind.u64.wrap (18446744073709551615 - t265))) = false := decide_eq_false c13; clear c13
    by_cases c85 : t262 < t265
    ·
     rw [if_pos c85] at H
     have c85b0 : decide (t262 < t265) = true := decide_eq_true c85; clear c85
     obtain rfl := Option.some.inj H
     go_enter Try.func8, Try.ntmps8
     try go_wp2_with (first | ((with_reducible refine gate_dst (N := 2) rfl ?_); refine box_event ?hg (N := 2) ?hd (cs := #[.int .u64 a0_0, .int .u64 a0_1]) (t := 58) ?hr ?_; (case hd => rfl); (case hg => rfl); (case hr => first | (go_simp; done) | (go_simp; rfl)); intro gb259 hg w86 hbox hb; have n0_ := Aside0.mk (below_step (by repeat (first | (with_reducible first | exact HB.out | apply lA | apply lN | apply lD) | exact HB.out)) hb); have n1_ := Aside0.mk (hbox); have n2_ := Aside0.mk ((by rw [hg]; exact (below_size (by repeat (first | (with_reducible first | exact HB.out | apply lA | apply lN | apply lD) | exact HB.out))) : w.heap.size ≤ gb259)); have n3_ := n2_; clear HB; have HB := n0_; have BK259 := n1_; have GW259 := n2_; have GE259 := n3_; clear n0_ n1_ n2_ n3_; clear hb hbox hg) | ((with_reducible refine gate_dst (N := 3) rfl ?_); refine box_event ?hg (N := 3) ?hd (cs := #[.int .u64 a1_0, .int .u64 a1_1]) (t := 58) ?hr ?_; (case hd => rfl); (case hg => rfl); (case hr => first | (go_simp; done) | (go_simp; rfl)); intro gb260 hg w87 hbox hb; have n0_ := Aside0.mk (blk_below (g := gb259) (o := .cells #[.int .u64 a0_0, .int .u64 a0_1] 58 (0, 0)) (by (with_reducible repeat (first | apply bN | apply bD | apply bA)); exact BK259.out) hb); have n1_ := Aside0.mk (below_step (by repeat (first | (with_reducible first | exact HB.out | apply lA | apply lN | apply lD | refine lS ?_ ‹_›) | exact HB.out)) hb); have n2_ := Aside0.mk (hbox); have n3_ := Aside0.mk ((by rw [hg]; exact (below_size (by repeat (first | (with_reducible first | exact HB.out | apply lA | apply lN | apply lD | refine lS ?_ ‹_›) | exact HB.out))) : w.heap.size ≤ gb260)); have n4_ := n3_; have n5_ := Aside0.mk ((by rw [hg]; exact Nat.ne_of_lt (blk_lt (g := gb259) (o := .cells #[.int .u64 a0_0, .int .u64 a0_1] 58 (0, 0)) (by (with_reducible repeat (first | apply bN | apply bD | apply bA)); exact BK259.out)) : gb259 ≠ gb260)); have n6_ := sy n5_; clear BK259; clear HB; have BK259 := n0_; have HB := n1_; have BK260 := n2_; have GW260 := n3_; have GE260 := n4_; have NB259_260 := n5_; have NB260_259 := n6_; clear n0_ n1_ n2_ n3_ n4_ n5_ n6_; clear hb hbox hg) | ((with_reducible refine gate_callee (f := 29) rfl ?_); refine goesL_ (some 15) rfl rfl Try.func29 (by kernel_rfl) rfl #[] rfl (by (try simp only [List.map_toArray, List.map_cons, List.map_nil]); first | done | rfl | (simp only [List.length_drop, List.length_take]; rfl)) ?_; (with_reducible refine (posternlaw15_first.calls k  true _ A3.out).mono ?_); rintro e w88 ⟨rfl, hb⟩; refine ⟨_, rfl, ?_⟩; have n0_ := Aside0.mk (blk_below (g := gb259) (o := .cells #[.int .u64 a0_0, .int .u64 a0_1] 58 (0, 0)) (by (with_reducible repeat (first | apply bN | apply bD | apply bA)); exact BK259.out) hb); have n1_ := Aside0.mk (blk_below (g := gb260) (o := .cells #[.int .u64 a1_0, .int .u64 a1_1] 58 (0, 0)) (by (with_reducible repeat (first | apply bN | apply bD | apply bA)); exact BK260.out) hb); have n2_ := Aside0.mk (below_step (by repeat (first | (with_reducible first | exact HB.out | apply lA | apply lN | apply lD | refine lS ?_ ‹_›) | exact HB.out)) hb); clear BK259; clear BK260; clear HB; have BK259 := n0_; have BK260 := n1_; have HB := n2_; clear n0_ n1_ n2_; (try clear hb); (try clear hb2); (try clear hk); (try clear hi)))
     have n0_ := Aside0.mk (blk_drew BK259.out); have n1_ := Aside0.mk (blk_drew BK260.out)
     have n2_ := Aside0.mk (below_drew1 HB.out)
     clear BK259; clear BK260; clear HB; have BK259 := n0_; have BK260 := n1_; have HB := n2_; clear n0_ n1_ n2_
     refine start_ (n := 12) (S := fun w' => w'.cell? ⟨gb259, 0, none⟩ = some (.int .u64 a0_0) ∧ w'.cell? ⟨gb259, 1, none⟩ = some (.int .u64 a0_1) ∧ w'.cell? ⟨gb260, 0, none⟩ = some (.int .u64 a1_0) ∧ w'.cell? ⟨gb260, 1, none⟩ = some (.int .u64 a1_1)) (ds := []) #[false, false, false, false, false, false, false, false, false, false, false, false] (by kernel_rfl) rfl rfl ⟨(blk_cell BK259.out 0).trans rfl, (blk_cell BK259.out 1).trans rfl, (blk_cell BK260.out 0).trans rfl, (blk_cell BK260.out 1).trans rfl⟩ (fun hHeld => ?_); refine with_tabW posternlaw15_SpanBest.tab3 posternlaw15_SpanBest.bits3 (fun HT_ HW_ => ?_)
     generalize w88.drew = w89 at BK259 BK260 HB hHeld ⊢
     refine take_ (i := 0) (N := some 17) (v := ?_) (a' := ?_) #[true, false, false, false, false, false, false, false, false, false, false, false] rfl rfl (take_ofW HT_.out HW_.out (by kernel_rfl)) (fun _ _ _ h => h) (Or.inl ⟨by rfl, ?_⟩) hHeld ?_ ?_
     rotate_left
     ·
      rintro w' ⟨s0, s1, s2, s3⟩
      go_simp; with_reducible rfl
     rotate_left
     ·
      simp only [Act.put, List.setIfInBounds_toArray, List.set_cons_zero, List.set_cons_succ, i64_w, i32_w]
      rfl
     refine take_ (i := 2) (N := some 19) (v := ?_) (a' := ?_) #[true, false, true, false, false, false, false, false, false, false, false, false] rfl rfl (take_ofW HT_.out HW_.out (by kernel_rfl)) (fun _ _ _ h => h) (Or.inl ⟨by rfl, ?_⟩) hHeld ?_ ?_
     rotate_left
     ·
      rintro w' ⟨s0, s1, s2, s3⟩
      go_simp; with_reducible rfl
     rotate_left
     ·
      simp only [Act.put, List.setIfInBounds_toArray, List.set_cons_zero, List.set_cons_succ, i64_w, i32_w]
      rfl
     refine take_ (i := 4) (N := some 21) (v := ?_) (a' := ?_) #[true, false, true, false, true, false, false, false, false, false, false, false] rfl rfl (take_ofW HT_.out HW_.out (by kernel_rfl)) (fun _ _ _ h => h) (Or.inl ⟨by rfl, ?_⟩) hHeld ?_ ?_
     rotate_left
     ·
      rintro w' ⟨s0, s1, s2, s3⟩
      go_simp; with_reducible rfl
     rotate_left
     ·
      simp only [Act.put, List.setIfInBounds_toArray, List.set_cons_zero, List.set_cons_succ, i64_w, i32_w]
      rfl
     refine take_ (i := 6) (N := some 23) (v := ?_) (a' := ?_) #[true, false, true, false, true, false, true, false, false, false, false, false] rfl rfl (take_ofW HT_.out HW_.out (by kernel_rfl)) (fun _ _ _ h => h) (Or.inl ⟨by rfl, ?_⟩) hHeld ?_ ?_
     rotate_left
     ·
      rintro w' ⟨s0, s1, s2, s3⟩
      go_simp; with_reducible rfl
     rotate_left
     ·
      simp only [Act.put, List.setIfInBounds_toArray, List.set_cons_zero, List.set_cons_succ, i64_w, i32_w]
      rfl
     refine one_ (i := 1) (N := some 18) #[true, true, true, false, true, false, true, false, false, false, false, false] rfl rfl (one_of HT_.out (by kernel_rfl)) (by decide) (fun K hK => ?_)
     refine goes_ Try.func30 (by kernel_rfl) rfl #[.agg #[.int .u64 a0_0, .int .u64 a0_1]] (by rfl) rfl rfl (by (try simp only [List.map_toArray, List.map_cons, List.map_nil]); first | done | rfl | (simp only [List.length_drop, List.length_take]; rfl)) ?_
     with_reducible refine (posternref15_Lo.calls a0_0 a0_1 t262 _ A5.out).mono ?_
     rintro e w90 ⟨rfl, hb⟩
     refine ⟨_, rfl, ?_⟩
     have n0_ := Aside0.mk (blk_below (g := gb259) (o := .cells #[.int .u64 a0_0, .int .u64 a0_1] 58 (0, 0)) (by (with_reducible repeat (first | apply bN | apply bD | apply bA)); exact BK259.out) hb)
     have n1_ := Aside0.mk (blk_below (g := gb260) (o := .cells #[.int .u64 a1_0, .int .u64 a1_1] 58 (0, 0)) (by (with_reducible repeat (first | apply bN | apply bD | apply bA)); exact BK260.out) hb)
     have n2_ := Aside0.mk (below_step (by repeat (first | (with_reducible first | exact HB.out | apply lA | apply lN | apply lD | refine lS ?_ ‹_›) | exact HB.out)) hb)
     clear BK259; clear BK260; clear HB; have BK259 := n0_; have BK260 := n1_; have HB := n2_; clear n0_ n1_ n2_
     (try clear hb)
     (try clear hb2)
     (try clear hk)
     (try clear hi)
     refine hK.out _ _ ⟨(blk_cell BK259.out 0).trans rfl, (blk_cell BK259.out 1).trans rfl, (blk_cell BK260.out 0).trans rfl, (blk_cell BK260.out 1).trans rfl⟩ (fun hHeld => ?_)
     clear hK K
     refine norm_ (a' := ?_) ?_ ?_
     rotate_left
     ·
      show Act.put _ (some 18) _ = _
      simp only [Act.put, List.setIfInBounds_toArray, List.set_cons_zero, List.set_cons_succ, i64_w, i32_w]
      rfl
     refine one_ (i := 3) (N := some 20) #[true, true, true, true, true, false, true, false, false, false, false, false] rfl rfl (one_of HT_.out (by kernel_rfl)) (by decide) (fun K hK => ?_)
     refine goes_ Try.func31 (by kernel_rfl) rfl #[.agg #[.int .u64 a0_0, .int .u64 a0_1]] (by rfl) rfl rfl (by (try simp only [List.map_toArray, List.map_cons, List.map_nil]); first | done | rfl | (simp only [List.length_drop, List.length_take]; rfl)) ?_
     with_reducible refine (posternref15_Hi.calls a0_0 a0_1 t263 _ A6.out).mono ?_
     rintro e w91 ⟨rfl, hb⟩
     refine ⟨_, rfl, ?_⟩
     have n0_ := Aside0.mk (blk_below (g := gb259) (o := .cells #[.int .u64 a0_0, .int .u64 a0_1] 58 (0, 0)) (by (with_reducible repeat (first | apply bN | apply bD | apply bA)); exact BK259.out) hb)
     have n1_ := Aside0.mk (blk_below (g := gb260) (o := .cells #[.int .u64 a1_0, .int .u64 a1_1] 58 (0, 0)) (by (with_reducible repeat (first | apply bN | apply bD | apply bA)); exact BK260.out) hb)
     have n2_ := Aside0.mk (below_step (by repeat (first | (with_reducible first | exact HB.out | apply lA | apply lN | apply lD | refine lS ?_ ‹_›) | exact HB.out)) hb)
     clear BK259; clear BK260; clear HB; have BK259 := n0_; have BK260 := n1_; have HB := n2_; clear n0_ n1_ n2_
     (try clear hb)
     (try clear hb2)
     (try clear hk)
     (try clear hi)
     refine hK.out _ _ ⟨(blk_cell BK259.out 0).trans rfl, (blk_cell BK259.out 1).trans rfl, (blk_cell BK260.out 0).trans rfl, (blk_cell BK260.out 1).trans rfl⟩ (fun hHeld => ?_)
     clear hK K
     refine norm_ (a' := ?_) ?_ ?_
     rotate_left
     ·
      show Act.put _ (some 20) _ = _
      simp only [Act.put, List.setIfInBounds_toArray, List.set_cons_zero, List.set_cons_succ, i64_w, i32_w]
      rfl
     refine one_ (i := 5) (N := some 22) #[true, true, true, true, true, true, true, false, false, false, false, false] rfl rfl (one_of HT_.out (by kernel_rfl)) (by decide) (fun K hK => ?_)
     refine goes_ Try.func30 (by kernel_rfl) rfl #[.agg #[.int .u64 a1_0, .int .u64 a1_1]] (by rfl) rfl rfl (by (try simp only [List.map_toArray, List.map_cons, List.map_nil]); first | done | rfl | (simp only [List.length_drop, List.length_take]; rfl)) ?_
     with_reducible refine (posternref15_Lo.calls a1_0 a1_1 t264 _ A7.out).mono ?_
     rintro e w92 ⟨rfl, hb⟩
     refine ⟨_, rfl, ?_⟩
     have n0_ := Aside0.mk (blk_below (g := gb259) (o := .cells #[.int .u64 a0_0, .int .u64 a0_1] 58 (0, 0)) (by (with_reducible repeat (first | apply bN | apply bD | apply bA)); exact BK259.out) hb)
     have n1_ := Aside0.mk (blk_below (g := gb260) (o := .cells #[.int .u64 a1_0, .int .u64 a1_1] 58 (0, 0)) (by (with_reducible repeat (first | apply bN | apply bD | apply bA)); exact BK260.out) hb)
     have n2_ := Aside0.mk (below_step (by repeat (first | (with_reducible first | exact HB.out | apply lA | apply lN | apply lD | refine lS ?_ ‹_›) | exact HB.out)) hb)
     clear BK259; clear BK260; clear HB; have BK259 := n0_; have BK260 := n1_; have HB := n2_; clear n0_ n1_ n2_
     (try clear hb)
     (try clear hb2)
     (try clear hk)
     (try clear hi)
     refine hK.out _ _ ⟨(blk_cell BK259.out 0).trans rfl, (blk_cell BK259.out 1).trans rfl, (blk_cell BK260.out 0).trans rfl, (blk_cell BK260.out 1).trans rfl⟩ (fun hHeld => ?_)
     clear hK K
     refine norm_ (a' := ?_) ?_ ?_
     rotate_left
     ·
      show Act.put _ (some 22) _ = _
      simp only [Act.put, List.setIfInBounds_toArray, List.set_cons_zero, List.set_cons_succ, i64_w, i32_w]
      rfl
     refine one_ (i := 7) (N := some 24) #[true, true, true, true, true, true, true, true, false, false, false, false] rfl rfl (one_of HT_.out (by kernel_rfl)) (by decide) (fun K hK => ?_)
     refine goes_ Try.func31 (by kernel_rfl) rfl #[.agg #[.int .u64 a1_0, .int .u64 a1_1]] (by rfl) rfl rfl (by (try simp only [List.map_toArray, List.map_cons, List.map_nil]); first | done | rfl | (simp only [List.length_drop, List.length_take]; rfl)) ?_
     with_reducible refine (posternref15_Hi.calls a1_0 a1_1 t265 _ A8.out).mono ?_
     rintro e w93 ⟨rfl, hb⟩
     refine ⟨_, rfl, ?_⟩
     have n0_ := Aside0.mk (blk_below (g := gb259) (o := .cells #[.int .u64 a0_0, .int .u64 a0_1] 58 (0, 0)) (by (with_reducible repeat (first | apply bN | apply bD | apply bA)); exact BK259.out) hb)
     have n1_ := Aside0.mk (blk_below (g := gb260) (o := .cells #[.int .u64 a1_0, .int .u64 a1_1] 58 (0, 0)) (by (with_reducible repeat (first | apply bN | apply bD | apply bA)); exact BK260.out) hb)
     have n2_ := Aside0.mk (below_step (by repeat (first | (with_reducible first | exact HB.out | apply lA | apply lN | apply lD | refine lS ?_ ‹_›) | exact HB.out)) hb)
     clear BK259; clear BK260; clear HB; have BK259 := n0_; have BK260 := n1_; have HB := n2_; clear n0_ n1_ n2_
     (try clear hb)
     (try clear hb2)
     (try clear hk)
     (try clear hi)
     refine hK.out _ _ ⟨(blk_cell BK259.out 0).trans rfl, (blk_cell BK259.out 1).trans rfl, (blk_cell BK260.out 0).trans rfl, (blk_cell BK260.out 1).trans rfl⟩ (fun hHeld => ?_)
     clear hK K
     refine norm_ (a' := ?_) ?_ ?_
     rotate_left
     ·
      show Act.put _ (some 24) _ = _
      simp only [Act.put, List.setIfInBounds_toArray, List.set_cons_zero, List.set_cons_succ, i64_w, i32_w]
      rfl
     refine pure_ (i := 8) (N := some 5) (v := ?_) (a' := ?_) #[true, true, true, true, true, true, true, true, true, false, false, false] rfl rfl (any_of HT_.out (by kernel_rfl)) (fun _ _ _ h => h) (Or.inl ⟨by rfl, ?_⟩) ?_ ?_
     rotate_left
     ·
      intro w'
      go_simp; with_reducible rfl
     rotate_left
     ·
      simp only [Act.put, List.setIfInBounds_toArray, List.set_cons_zero, List.set_cons_succ, i64_w, i32_w]
      rfl
     refine pure_ (i := 9) (N := some 6) (v := ?_) (a' := ?_) #[true, true, true, true, true, true, true, true, true, true, false, false] rfl rfl (any_of HT_.out (by kernel_rfl)) (fun _ _ _ h => h) (Or.inl ⟨by rfl, ?_⟩) ?_ ?_
     rotate_left
     ·
      intro w'
      go_simp; with_reducible rfl
     rotate_left
     ·
      simp only [Act.put, List.setIfInBounds_toArray, List.set_cons_zero, List.set_cons_succ, i64_w, i32_w]
      rfl
     refine pure_ (i := 10) (N := some 7) (v := ?_) (a' := ?_) #[true, true, true, true, true, true, true, true, true, true, true, false] rfl rfl (any_of HT_.out (by kernel_rfl)) (fun _ _ _ h => h) (Or.inl ⟨by rfl, ?_⟩) ?_ ?_
     rotate_left
     ·
      intro w'
      go_simp; with_reducible rfl
     rotate_left
     ·
      simp only [Act.put, List.setIfInBounds_toArray, List.set_cons_zero, List.set_cons_succ, i64_w, i32_w]
      rfl
     refine pure_ (i := 11) (N := some 8) (v := ?_) (a' := ?_) #[true, true, true, true, true, true, true, true, true, true, true, true] rfl rfl (any_of HT_.out (by kernel_rfl)) (fun _ _ _ h => h) (Or.inl ⟨by rfl, ?_⟩) ?_ ?_
     rotate_left
     ·
      intro w'
      go_simp; with_reducible rfl
     rotate_left
     ·
      simp only [Act.put, List.setIfInBounds_toArray, List.set_cons_zero, List.set_cons_succ, i64_w, i32_w]
      rfl
     refine done_ (done_of HT_.out (by kernel_rfl)) ?_
     have hnb94 := NB259_260.out; have hnc94 := NB260_259.out; have hcz95_0 : w93.cell? ⟨gb259, 0, none⟩ = some (.int .u64 a0_0) := (blk_cell BK259.out 0).trans rfl; have hcz95_1 : w93.cell? ⟨gb259, 1, none⟩ = some (.int .u64 a0_1) := (blk_cell BK259.out 1).trans rfl; have hfz95_0 := blk_frozen BK259.out 0; have hfz95_1 := blk_frozen BK259.out 1; have hcz96_0 : w93.cell? ⟨gb260, 0, none⟩ = some (.int .u64 a1_0) := (blk_cell BK260.out 0).trans rfl; have hcz96_1 : w93.cell? ⟨gb260, 1, none⟩ = some (.int .u64 a1_1) := (blk_cell BK260.out 1).trans rfl; have hfz96_0 := blk_frozen BK260.out 0; have hfz96_1 := blk_frozen BK260.out 1
     try go_wp2_with (first | ((with_reducible refine gate_callee (f := 32) rfl ?_); refine goesL_ (some 28) rfl rfl Try.func32 (by kernel_rfl) rfl #[.int .i64 0, .bool true, .agg #[.int .u64 a0_0, .int .u64 a0_1], .agg #[.int .u64 a1_0, .int .u64 a1_1]] rfl (by (try simp only [List.map_toArray, List.map_cons, List.map_nil]); first | done | rfl | (simp only [List.length_drop, List.length_take]; rfl)) ?_; (with_reducible refine (span_Do.calls k 0 true a0_0 a0_1 a1_0 a1_1 t266 t267 t268 _ A9.out).mono ?_); rintro e w97 ⟨rfl, hb⟩; refine ⟨_, rfl, ?_⟩; have n0_ := Aside0.mk (blk_below (g := gb259) (o := .cells #[.int .u64 a0_0, .int .u64 a0_1] 58 (0, 0)) (by (with_reducible repeat (first | apply bN | apply bD | apply bA)); exact BK259.out) hb); have n1_ := Aside0.mk (blk_below (g := gb260) (o := .cells #[.int .u64 a1_0, .int .u64 a1_1] 58 (0, 0)) (by (with_reducible repeat (first | apply bN | apply bD | apply bA)); exact BK260.out) hb); have n2_ := Aside0.mk (below_step (by repeat (first | (with_reducible first | exact HB.out | apply lA | apply lN | apply lD | refine lS ?_ ‹_›) | exact HB.out)) hb); clear BK259; clear BK260; clear HB; have BK259 := n0_; have BK260 := n1_; have HB := n2_; clear n0_ n1_ n2_; (try clear hb); (try clear hb2); (try clear hk); (try clear hi)) | ((with_reducible refine gate_dst (N := 9) rfl ?_); refine box_event ?hg (N := 9) ?hd (cs := #[.int .u64 0, .int .u64 0]) (t := 58) ?hr ?_; (case hd => rfl); (case hg => rfl); (case hr => first | (go_simp; done) | (go_simp; rfl)); intro gb269 hg w98 hbox hb; have n0_ := Aside0.mk (blk_below (g := gb259) (o := .cells #[.int .u64 a0_0, .int .u64 a0_1] 58 (0, 0)) (by (with_reducible repeat (first | apply bN | apply bD | apply bA)); exact BK259.out) hb); have n1_ := Aside0.mk (blk_below (g := gb260) (o := .cells #[.int .u64 a1_0, .int .u64 a1_1] 58 (0, 0)) (by (with_reducible repeat (first | apply bN | apply bD | apply bA)); exact BK260.out) hb); have n2_ := Aside0.mk (below_step (by repeat (first | (with_reducible first | exact HB.out | apply lA | apply lN | apply lD | refine lS ?_ ‹_›) | exact HB.out)) hb); have n3_ := Aside0.mk (hbox); have n4_ := Aside0.mk ((by rw [hg]; exact (below_size (by repeat (first | (with_reducible first | exact HB.out | apply lA | apply lN | apply lD | refine lS ?_ ‹_›) | exact HB.out))) : w.heap.size ≤ gb269)); have n5_ := n4_; have n6_ := Aside0.mk ((by rw [hg]; exact Nat.ne_of_lt (blk_lt (g := gb259) (o := .cells #[.int .u64 a0_0, .int .u64 a0_1] 58 (0, 0)) (by (with_reducible repeat (first | apply bN | apply bD | apply bA)); exact BK259.out)) : gb259 ≠ gb269)); have n7_ := sy n6_; have n8_ := Aside0.mk ((by rw [hg]; exact Nat.ne_of_lt (blk_lt (g := gb260) (o := .cells #[.int .u64 a1_0, .int .u64 a1_1] 58 (0, 0)) (by (with_reducible repeat (first | apply bN | apply bD | apply bA)); exact BK260.out)) : gb260 ≠ gb269)); have n9_ := sy n8_; clear BK259; clear BK260; clear HB; have BK259 := n0_; have BK260 := n1_; have HB := n2_; have BK269 := n3_; have GW269 := n4_; have GE269 := n5_; have NB259_269 := n6_; have NB269_259 := n7_; have NB260_269 := n8_; have NB269_260 := n9_; clear n0_ n1_ n2_ n3_ n4_ n5_ n6_ n7_ n8_ n9_; clear hb hbox hg; have hnb99 := NB269_259.out; have hnc99 := NB259_269.out; have hnb100 := NB269_260.out; have hnc100 := NB260_269.out; have hcz101_0 : w98.cell? ⟨gb269, 0, none⟩ = some (.int .u64 0) := (blk_cell BK269.out 0).trans rfl; have hcz101_1 : w98.cell? ⟨gb269, 1, none⟩ = some (.int .u64 0) := (blk_cell BK269.out 1).trans rfl; have hfz101_0 := blk_frozen BK269.out 0; have hfz101_1 := blk_frozen BK269.out 1; have hcz102_0 : w98.cell? ⟨gb259, 0, none⟩ = some (.int .u64 a0_0) := (blk_cell BK259.out 0).trans rfl; have hcz102_1 : w98.cell? ⟨gb259, 1, none⟩ = some (.int .u64 a0_1) := (blk_cell BK259.out 1).trans rfl; have hfz102_0 := blk_frozen BK259.out 0; have hfz102_1 := blk_frozen BK259.out 1; have hcz103_0 : w98.cell? ⟨gb260, 0, none⟩ = some (.int .u64 a1_0) := (blk_cell BK260.out 0).trans rfl; have hcz103_1 : w98.cell? ⟨gb260, 1, none⟩ = some (.int .u64 a1_1) := (blk_cell BK260.out 1).trans rfl; have hfz103_0 := blk_frozen BK260.out 0; have hfz103_1 := blk_frozen BK260.out 1) | ((with_reducible refine gate_callee (f := 32) rfl ?_); refine goesL_ (some 34) rfl rfl Try.func32 (by kernel_rfl) rfl #[.int .i64 16, .bool true, .agg #[.int .u64 a0_0, .int .u64 a0_1], .agg #[.int .u64 a1_0, .int .u64 a1_1]] rfl (by (try simp only [List.map_toArray, List.map_cons, List.map_nil]); first | done | rfl | (simp only [List.length_drop, List.length_take]; rfl)) ?_; (with_reducible refine (span_Do.calls k 16 true a0_0 a0_1 a1_0 a1_1 t270 t271 t272 _ A10.out).mono ?_); rintro e w104 ⟨rfl, hb⟩; refine ⟨_, rfl, ?_⟩; have n0_ := Aside0.mk (blk_below (g := gb259) (o := .cells #[.int .u64 a0_0, .int .u64 a0_1] 58 (0, 0)) (by (with_reducible repeat (first | apply bN | apply bD | apply bA)); refine blk_far ?_ NB259_269.out _; (with_reducible repeat (first | apply bN | apply bD | apply bA)); refine blk_far ?_ NB259_269.out _; (with_reducible repeat (first | apply bN | apply bD | apply bA)); exact BK259.out) hb); have n1_ := Aside0.mk (blk_below (g := gb260) (o := .cells #[.int .u64 a1_0, .int .u64 a1_1] 58 (0, 0)) (by (with_reducible repeat (first | apply bN | apply bD | apply bA)); refine blk_far ?_ NB260_269.out _; (with_reducible repeat (first | apply bN | apply bD | apply bA)); refine blk_far ?_ NB260_269.out _; (with_reducible repeat (first | apply bN | apply bD | apply bA)); exact BK260.out) hb); have n2_ := Aside0.mk (blk_below (g := gb269) (o := .cells #[.int .u64 t266, .int .u64 t267] 58 (0, 0)) (by (with_reducible repeat (first | apply bN | apply bD | apply bA)); refine blk_put (cs := #[.int .u64 t266, .int .u64 0]) ?_ 1 _ rfl; (with_reducible repeat (first | apply bN | apply bD | apply bA)); refine blk_put (cs := #[.int .u64 0, .int .u64 0]) ?_ 0 _ rfl; (with_reducible repeat (first | apply bN | apply bD | apply bA)); exact BK269.out) hb); have n3_ := Aside0.mk (below_step (by repeat (first | (with_reducible first | exact HB.out | apply lA | apply lN | apply lD | refine lS ?_ ‹_›) | exact HB.out)) hb); clear BK259; clear BK260; clear BK269; clear HB; have BK259 := n0_; have BK260 := n1_; have BK269 := n2_; have HB := n3_; clear n0_ n1_ n2_ n3_; (try clear hb); (try clear hb2); (try clear hk); (try clear hi)) | ((with_reducible refine gate_dst (N := 11) rfl ?_); refine box_event ?hg (N := 11) ?hd (cs := #[.int .u64 0, .int .u64 0]) (t := 58) ?hr ?_; (case hd => rfl); (case hg => rfl); (case hr => first | (go_simp; done) | (go_simp; rfl)); intro gb273 hg w105 hbox hb; have n0_ := Aside0.mk (blk_below (g := gb259) (o := .cells #[.int .u64 a0_0, .int .u64 a0_1] 58 (0, 0)) (by (with_reducible repeat (first | apply bN | apply bD | apply bA)); exact BK259.out) hb); have n1_ := Aside0.mk (blk_below (g := gb260) (o := .cells #[.int .u64 a1_0, .int .u64 a1_1] 58 (0, 0)) (by (with_reducible repeat (first | apply bN | apply bD | apply bA)); exact BK260.out) hb); have n2_ := Aside0.mk (blk_below (g := gb269) (o := .cells #[.int .u64 t266, .int .u64 t267] 58 (0, 0)) (by (with_reducible repeat (first | apply bN | apply bD | apply bA)); exact BK269.out) hb); have n3_ := Aside0.mk (below_step (by repeat (first | (with_reducible first | exact HB.out | apply lA | apply lN | apply lD | refine lS ?_ ‹_›) | exact HB.out)) hb); have n4_ := Aside0.mk (hbox); have n5_ := Aside0.mk ((by rw [hg]; exact (below_size (by repeat (first | (with_reducible first | exact HB.out | apply lA | apply lN | apply lD | refine lS ?_ ‹_›) | exact HB.out))) : w.heap.size ≤ gb273)); have n6_ := n5_; have n7_ := Aside0.mk ((by rw [hg]; exact Nat.ne_of_lt (blk_lt (g := gb259) (o := .cells #[.int .u64 a0_0, .int .u64 a0_1] 58 (0, 0)) (by (with_reducible repeat (first | apply bN | apply bD | apply bA)); exact BK259.out)) : gb259 ≠ gb273)); have n8_ := sy n7_; have n9_ := Aside0.mk ((by rw [hg]; exact Nat.ne_of_lt (blk_lt (g := gb260) (o := .cells #[.int .u64 a1_0, .int .u64 a1_1] 58 (0, 0)) (by (with_reducible repeat (first | apply bN | apply bD | apply bA)); exact BK260.out)) : gb260 ≠ gb273)); have n10_ := sy n9_; have n11_ := Aside0.mk ((by rw [hg]; exact Nat.ne_of_lt (blk_lt (g := gb269) (o := .cells #[.int .u64 t266, .int .u64 t267] 58 (0, 0)) (by (with_reducible repeat (first | apply bN | apply bD | apply bA)); exact BK269.out)) : gb269 ≠ gb273)); have n12_ := sy n11_; clear BK259; clear BK260; clear BK269; clear HB; have BK259 := n0_; have BK260 := n1_; have BK269 := n2_; have HB := n3_; have BK273 := n4_; have GW273 := n5_; have GE273 := n6_; have NB259_273 := n7_; have NB273_259 := n8_; have NB260_273 := n9_; have NB273_260 := n10_; have NB269_273 := n11_; have NB273_269 := n12_; clear n0_ n1_ n2_ n3_ n4_ n5_ n6_ n7_ n8_ n9_ n10_ n11_ n12_; clear hb hbox hg; have hnb106 := NB273_259.out; have hnc106 := NB259_273.out; have hnb107 := NB273_260.out; have hnc107 := NB260_273.out; have hnb108 := NB273_269.out; have hnc108 := NB269_273.out; have hcz109_0 : w105.cell? ⟨gb273, 0, none⟩ = some (.int .u64 0) := (blk_cell BK273.out 0).trans rfl; have hcz109_1 : w105.cell? ⟨gb273, 1, none⟩ = some (.int .u64 0) := (blk_cell BK273.out 1).trans rfl; have hfz109_0 := blk_frozen BK273.out 0; have hfz109_1 := blk_frozen BK273.out 1; have hcz110_0 : w105.cell? ⟨gb259, 0, none⟩ = some (.int .u64 a0_0) := (blk_cell BK259.out 0).trans rfl; have hcz110_1 : w105.cell? ⟨gb259, 1, none⟩ = some (.int .u64 a0_1) := (blk_cell BK259.out 1).trans rfl; have hfz110_0 := blk_frozen BK259.out 0; have hfz110_1 := blk_frozen BK259.out 1; have hcz111_0 : w105.cell? ⟨gb260, 0, none⟩ = some (.int .u64 a1_0) := (blk_cell BK260.out 0).trans rfl; have hcz111_1 : w105.cell? ⟨gb260, 1, none⟩ = some (.int .u64 a1_1) := (blk_cell BK260.out 1).trans rfl; have hfz111_0 := blk_frozen BK260.out 0; have hfz111_1 := blk_frozen BK260.out 1) | ((with_reducible refine gate_callee (f := 32) rfl ?_); refine goesL_ (some 40) rfl rfl Try.func32 (by kernel_rfl) rfl #[.int .i64 176, .bool true, .agg #[.int .u64 a0_0, .int .u64 a0_1], .agg #[.int .u64 a1_0, .int .u64 a1_1]] rfl (by (try simp only [List.map_toArray, List.map_cons, List.map_nil]); first | done | rfl | (simp only [List.length_drop, List.length_take]; rfl)) ?_; (with_reducible refine (span_Do.calls k 176 true a0_0 a0_1 a1_0 a1_1 t274 t275 t276 _ A11.out).mono ?_); rintro e w112 ⟨rfl, hb⟩; refine ⟨_, rfl, ?_⟩; have n0_ := Aside0.mk (blk_below (g := gb259) (o := .cells #[.int .u64 a0_0, .int .u64 a0_1] 58 (0, 0)) (by (with_reducible repeat (first | apply bN | apply bD | apply bA)); refine blk_far ?_ NB259_273.out _; (with_reducible repeat (first | apply bN | apply bD | apply bA)); refine blk_far ?_ NB259_273.out _; (with_reducible repeat (first | apply bN | apply bD | apply bA)); exact BK259.out) hb); have n1_ := Aside0.mk (blk_below (g := gb260) (o := .cells #[.int .u64 a1_0, .int .u64 a1_1] 58 (0, 0)) (by (with_reducible repeat (first | apply bN | apply bD | apply bA)); refine blk_far ?_ NB260_273.out _; (with_reducible repeat (first | apply bN | apply bD | apply bA)); refine blk_far ?_ NB260_273.out _; (with_reducible repeat (first | apply bN | apply bD | apply bA)); exact BK260.out) hb); have n2_ := Aside0.mk (blk_below (g := gb269) (o := .cells #[.int .u64 t266, .int .u64 t267] 58 (0, 0)) (by (with_reducible repeat (first | apply bN | apply bD | apply bA)); refine blk_far ?_ NB269_273.out _; (with_reducible repeat (first | apply bN | apply bD | apply bA)); refine blk_far ?_ NB269_273.out _; (with_reducible repeat (first | apply bN | apply bD | apply bA)); exact BK269.out) hb); have n3_ := Aside0.mk (blk_below (g := gb273) (o := .cells #[.int .u64 t270, .int .u64 t271] 58 (0, 0)) (by (with_reducible repeat (first | apply bN | apply bD | apply bA)); refine blk_put (cs := #[.int .u64 t270, .int .u64 0]) ?_ 1 _ rfl; (with_reducible repeat (first | apply bN | apply bD | apply bA)); refine blk_put (cs := #[.int .u64 0, .int .u64 0]) ?_ 0 _ rfl; (with_reducible repeat (first | apply bN | apply bD | apply bA)); exact BK273.out) hb); have n4_ := Aside0.mk (below_step (by repeat (first | (with_reducible first | exact HB.out | apply lA | apply lN | apply lD | refine lS ?_ ‹_›) | exact HB.out)) hb); clear BK259; clear BK260; clear BK269; clear BK273; clear HB; have BK259 := n0_; have BK260 := n1_; have BK269 := n2_; have BK273 := n3_; have HB := n4_; clear n0_ n1_ n2_ n3_ n4_; (try clear hb); (try clear hb2); (try clear hk); (try clear hi)) | ((with_reducible refine gate_dst (N := 13) rfl ?_); refine box_event ?hg (N := 13) ?hd (cs := #[.int .u64 0, .int .u64 0]) (t := 58) ?hr ?_; (case hd => rfl); (case hg => rfl); (case hr => first | (go_simp; done) | (go_simp; rfl)); intro gb277 hg w113 hbox hb; have n0_ := Aside0.mk (blk_below (g := gb259) (o := .cells #[.int .u64 a0_0, .int .u64 a0_1] 58 (0, 0)) (by (with_reducible repeat (first | apply bN | apply bD | apply bA)); exact BK259.out) hb); have n1_ := Aside0.mk (blk_below (g := gb260) (o := .cells #[.int .u64 a1_0, .int .u64 a1_1] 58 (0, 0)) (by (with_reducible repeat (first | apply bN | apply bD | apply bA)); exact BK260.out) hb); have n2_ := Aside0.mk (blk_below (g := gb269) (o := .cells #[.int .u64 t266, .int .u64 t267] 58 (0, 0)) (by (with_reducible repeat (first | apply bN | apply bD | apply bA)); exact BK269.out) hb); have n3_ := Aside0.mk (blk_below (g := gb273) (o := .cells #[.int .u64 t270, .int .u64 t271] 58 (0, 0)) (by (with_reducible repeat (first | apply bN | apply bD | apply bA)); exact BK273.out) hb); have n4_ := Aside0.mk (below_step (by repeat (first | (with_reducible first | exact HB.out | apply lA | apply lN | apply lD | refine lS ?_ ‹_›) | exact HB.out)) hb); have n5_ := Aside0.mk (hbox); have n6_ := Aside0.mk ((by rw [hg]; exact (below_size (by repeat (first | (with_reducible first | exact HB.out | apply lA | apply lN | apply lD | refine lS ?_ ‹_›) | exact HB.out))) : w.heap.size ≤ gb277)); have n7_ := n6_; have n8_ := Aside0.mk ((by rw [hg]; exact Nat.ne_of_lt (blk_lt (g := gb259) (o := .cells #[.int .u64 a0_0, .int .u64 a0_1] 58 (0, 0)) (by (with_reducible repeat (first | apply bN | apply bD | apply bA)); exact BK259.out)) : gb259 ≠ gb277)); have n9_ := sy n8_; have n10_ := Aside0.mk ((by rw [hg]; exact Nat.ne_of_lt (blk_lt (g := gb260) (o := .cells #[.int .u64 a1_0, .int .u64 a1_1] 58 (0, 0)) (by (with_reducible repeat (first | apply bN | apply bD | apply bA)); exact BK260.out)) : gb260 ≠ gb277)); have n11_ := sy n10_; have n12_ := Aside0.mk ((by rw [hg]; exact Nat.ne_of_lt (blk_lt (g := gb269) (o := .cells #[.int .u64 t266, .int .u64 t267] 58 (0, 0)) (by (with_reducible repeat (first | apply bN | apply bD | apply bA)); exact BK269.out)) : gb269 ≠ gb277)); have n13_ := sy n12_; have n14_ := Aside0.mk ((by rw [hg]; exact Nat.ne_of_lt (blk_lt (g := gb273) (o := .cells #[.int .u64 t270, .int .u64 t271] 58 (0, 0)) (by (with_reducible repeat (first | apply bN | apply bD | apply bA)); exact BK273.out)) : gb273 ≠ gb277)); have n15_ := sy n14_; clear BK259; clear BK260; clear BK269; clear BK273; clear HB; have BK259 := n0_; have BK260 := n1_; have BK269 := n2_; have BK273 := n3_; have HB := n4_; have BK277 := n5_; have GW277 := n6_; have GE277 := n7_; have NB259_277 := n8_; have NB277_259 := n9_; have NB260_277 := n10_; have NB277_260 := n11_; have NB269_277 := n12_; have NB277_269 := n13_; have NB273_277 := n14_; have NB277_273 := n15_; clear n0_ n1_ n2_ n3_ n4_ n5_ n6_ n7_ n8_ n9_ n10_ n11_ n12_ n13_ n14_ n15_; clear hb hbox hg; have hnb114 := NB277_259.out; have hnc114 := NB259_277.out; have hnb115 := NB277_260.out; have hnc115 := NB260_277.out; have hnb116 := NB277_269.out; have hnc116 := NB269_277.out; have hnb117 := NB277_273.out; have hnc117 := NB273_277.out; have hcz118_0 : w113.cell? ⟨gb277, 0, none⟩ = some (.int .u64 0) := (blk_cell BK277.out 0).trans rfl; have hcz118_1 : w113.cell? ⟨gb277, 1, none⟩ = some (.int .u64 0) := (blk_cell BK277.out 1).trans rfl; have hfz118_0 := blk_frozen BK277.out 0; have hfz118_1 := blk_frozen BK277.out 1))
     go_ret
     exact ⟨by first | rfl | (simp [errW_none, errW_some] <;> rfl) | (simp [*, errW_none, errW_some] <;> rfl), by repeat (first | (with_reducible first | exact HB.out | apply lA | apply lN | apply lD | refine lS ?_ ‹_›) | exact HB.out)⟩
    ·
     rw [if_neg c85] at H
     have c85b0 : decide (t262 < t265) = false := decide_eq_false c85; clear c85
     obtain rfl := Option.some.inj H
     go_enter Try.func8, Try.ntmps8
     try go_wp2_with (first | ((with_reducible refine gate_dst (N := 2) rfl ?_); refine box_event ?hg (N := 2) ?hd (cs := #[.int .u64 a0_0, .int .u64 a0_1]) (t := 58) ?hr ?_; (case hd => rfl); (case hg => rfl); (case hr => first | (go_simp; done) | (go_simp; rfl)); intro gb259 hg w119 hbox hb; have n0_ := Aside0.mk (below_step (by repeat (first | (with_reducible first | exact HB.out | apply lA | apply lN | apply lD) | exact HB.out)) hb); have n1_ := Aside0.mk (hbox); have n2_ := Aside0.mk ((by rw [hg]; exact (below_size (by repeat (first | (with_reducible first | exact HB.out | apply lA | apply lN | apply lD) | exact HB.out))) : w.heap.size ≤ gb259)); have n3_ := n2_; clear HB; have HB := n0_; have BK259 := n1_; have GW259 := n2_; have GE259 := n3_; clear n0_ n1_ n2_ n3_; clear hb hbox hg) | ((with_reducible refine gate_dst (N := 3) rfl ?_); refine box_event ?hg (N := 3) ?hd (cs := #[.int .u64 a1_0, .int .u64 a1_1]) (t := 58) ?hr ?_; (case hd => rfl); (case hg => rfl); (case hr => first | (go_simp; done) | (go_simp; rfl)); intro gb260 hg w120 hbox hb; have n0_ := Aside0.mk (blk_below (g := gb259) (o := .cells #[.int .u64 a0_0, .int .u64 a0_1] 58 (0, 0)) (by (with_reducible repeat (first | apply bN | apply bD | apply bA)); exact BK259.out) hb); have n1_ := Aside0.mk (below_step (by repeat (first | (with_reducible first | exact HB.out | apply lA | apply lN | apply lD | refine lS ?_ ‹_›) | exact HB.out)) hb); have n2_ := Aside0.mk (hbox); have n3_ := Aside0.mk ((by rw [hg]; exact (below_size (by repeat (first | (with_reducible first | exact HB.out | apply lA | apply lN | apply lD | refine lS ?_ ‹_›) | exact HB.out))) : w.heap.size ≤ gb260)); have n4_ := n3_; have n5_ := Aside0.mk ((by rw [hg]; exact Nat.ne_of_lt (blk_lt (g := gb259) (o := .cells #[.int .u64 a0_0, .int .u64 a0_1] 58 (0, 0)) (by (with_reducible repeat (first | apply bN | apply bD | apply bA)); exact BK259.out)) : gb259 ≠ gb260)); have n6_ := sy n5_; clear BK259; clear HB; have BK259 := n0_; have HB := n1_; have BK260 := n2_; have GW260 := n3_; have GE260 := n4_; have NB259_260 := n5_; have NB260_259 := n6_; clear n0_ n1_ n2_ n3_ n4_ n5_ n6_; clear hb hbox hg) | ((with_reducible refine gate_callee (f := 29) rfl ?_); refine goesL_ (some 15) rfl rfl Try.func29 (by kernel_rfl) rfl #[] rfl (by (try simp only [List.map_toArray, List.map_cons, List.map_nil]); first | done | rfl | (simp only [List.length_drop, List.length_take]; rfl)) ?_; (with_reducible refine (posternlaw15_first.calls k  true _ A3.out).mono ?_); rintro e w121 ⟨rfl, hb⟩; refine ⟨_, rfl, ?_⟩; have n0_ := Aside0.mk (blk_below (g := gb259) (o := .cells #[.int .u64 a0_0, .int .u64 a0_1] 58 (0, 0)) (by (with_reducible repeat (first | apply bN | apply bD | apply bA)); exact BK259.out) hb); have n1_ := Aside0.mk (blk_below (g := gb260) (o := .cells #[.int .u64 a1_0, .int .u64 a1_1] 58 (0, 0)) (by (with_reducible repeat (first | apply bN | apply bD | apply bA)); exact BK260.out) hb); have n2_ := Aside0.mk (below_step (by repeat (first | (with_reducible first | exact HB.out | apply lA | apply lN | apply lD | refine lS ?_ ‹_›) | exact HB.out)) hb); clear BK259; clear BK260; clear HB; have BK259 := n0_; have BK260 := n1_; have HB := n2_; clear n0_ n1_ n2_; (try clear hb); (try clear hb2); (try clear hk); (try clear hi)))
     have n0_ := Aside0.mk (blk_drew BK259.out); have n1_ := Aside0.mk (blk_drew BK260.out)
     have n2_ := Aside0.mk (below_drew1 HB.out)
     clear BK259; clear BK260; clear HB; have BK259 := n0_; have BK260 := n1_; have HB := n2_; clear n0_ n1_ n2_
     refine start_ (n := 12) (S := fun w' => w'.cell? ⟨gb259, 0, none⟩ = some (.int .u64 a0_0) ∧ w'.cell? ⟨gb259, 1, none⟩ = some (.int .u64 a0_1) ∧ w'.cell? ⟨gb260, 0, none⟩ = some (.int .u64 a1_0) ∧ w'.cell? ⟨gb260, 1, none⟩ = some (.int .u64 a1_1)) (ds := []) #[false, false, false, false, false, false, false, false, false, false, false, false] (by kernel_rfl) rfl rfl ⟨(blk_cell BK259.out 0).trans rfl, (blk_cell BK259.out 1).trans rfl, (blk_cell BK260.out 0).trans rfl, (blk_cell BK260.out 1).trans rfl⟩ (fun hHeld => ?_); refine with_tabW posternlaw15_SpanBest.tab3 posternlaw15_SpanBest.bits3 (fun HT_ HW_ => ?_)
     generalize w121.drew = w122 at BK259 BK260 HB hHeld ⊢
     refine take_ (i := 0) (N := some 17) (v := ?_) (a' := ?_) #[true, false, false, false, false, false, false, false, false, false, false, false] rfl rfl (take_ofW HT_.out HW_.out (by kernel_rfl)) (fun _ _ _ h => h) (Or.inl ⟨by rfl, ?_⟩) hHeld ?_ ?_
     rotate_left
     ·
      rintro w' ⟨s0, s1, s2, s3⟩
      go_simp; with_reducible rfl
     rotate_left
     ·
      simp only [Act.put, List.setIfInBounds_toArray, List.set_cons_zero, List.set_cons_succ, i64_w, i32_w]
      rfl
     refine take_ (i := 2) (N := some 19) (v := ?_) (a' := ?_) #[true, false, true, false, false, false, false, false, false, false, false, false] rfl rfl (take_ofW HT_.out HW_.out (by kernel_rfl)) (fun _ _ _ h => h) (Or.inl ⟨by rfl, ?_⟩) hHeld ?_ ?_
     rotate_left
     ·
      rintro w' ⟨s0, s1, s2, s3⟩
      go_simp; with_reducible rfl
     rotate_left
     ·
      simp only [Act.put, List.setIfInBounds_toArray, List.set_cons_zero, List.set_cons_succ, i64_w, i32_w]
      rfl
     refine take_ (i := 4) (N := some 21) (v := ?_) (a' := ?_) #[true, false, true, false, true, false, false, false, false, false, false, false] rfl rfl (take_ofW HT_.out HW_.out (by kernel_rfl)) (fun _ _ _ h => h) (Or.inl ⟨by rfl, ?_⟩) hHeld ?_ ?_
     rotate_left
     ·
      rintro w' ⟨s0, s1, s2, s3⟩
      go_simp; with_reducible rfl
     rotate_left
     ·
      simp only [Act.put, List.setIfInBounds_toArray, List.set_cons_zero, List.set_cons_succ, i64_w, i32_w]
      rfl
     refine take_ (i := 6) (N := some 23) (v := ?_) (a' := ?_) #[true, false, true, false, true, false, true, false, false, false, false, false] rfl rfl (take_ofW HT_.out HW_.out (by kernel_rfl)) (fun _ _ _ h => h) (Or.inl ⟨by rfl, ?_⟩) hHeld ?_ ?_
     rotate_left
     ·
      rintro w' ⟨s0, s1, s2, s3⟩
      go_simp; with_reducible rfl
     rotate_left
     ·
      simp only [Act.put, List.setIfInBounds_toArray, List.set_cons_zero, List.set_cons_succ, i64_w, i32_w]
      rfl
     refine one_ (i := 1) (N := some 18) #[true, true, true, false, true, false, true, false, false, false, false, false] rfl rfl (one_of HT_.out (by kernel_rfl)) (by decide) (fun K hK => ?_)
     refine goes_ Try.func30 (by kernel_rfl) rfl #[.agg #[.int .u64 a0_0, .int .u64 a0_1]] (by rfl) rfl rfl (by (try simp only [List.map_toArray, List.map_cons, List.map_nil]); first | done | rfl | (simp only [List.length_drop, List.length_take]; rfl)) ?_
     with_reducible refine (posternref15_Lo.calls a0_0 a0_1 t262 _ A5.out).mono ?_
     rintro e w123 ⟨rfl, hb⟩
     refine ⟨_, rfl, ?_⟩
     have n0_ := Aside0.mk (blk_below (g := gb259) (o := .cells #[.int .u64 a0_0, .int .u64 a0_1] 58 (0, 0)) (by (with_reducible repeat (first | apply bN | apply bD | apply bA)); exact BK259.out) hb)
     have n1_ := Aside0.mk (blk_below (g := gb260) (o := .cells #[.int .u64 a1_0, .int .u64 a1_1] 58 (0, 0)) (by (with_reducible repeat (first | apply bN | apply bD | apply bA)); exact BK260.out) hb)
     have n2_ := Aside0.mk (below_step (by repeat (first | (with_reducible first | exact HB.out | apply lA | apply lN | apply lD | refine lS ?_ ‹_›) | exact HB.out)) hb)
     clear BK259; clear BK260; clear HB; have BK259 := n0_; have BK260 := n1_; have HB := n2_; clear n0_ n1_ n2_
     (try clear hb)
     (try clear hb2)
     (try clear hk)
     (try clear hi)
     refine hK.out _ _ ⟨(blk_cell BK259.out 0).trans rfl, (blk_cell BK259.out 1).trans rfl, (blk_cell BK260.out 0).trans rfl, (blk_cell BK260.out 1).trans rfl⟩ (fun hHeld => ?_)
     clear hK K
     refine norm_ (a' := ?_) ?_ ?_
     rotate_left
     ·
      show Act.put _ (some 18) _ = _
      simp only [Act.put, List.setIfInBounds_toArray, List.set_cons_zero, List.set_cons_succ, i64_w, i32_w]
      rfl
     refine one_ (i := 3) (N := some 20) #[true, true, true, true, true, false, true, false, false, false, false, false] rfl rfl (one_of HT_.out (by kernel_rfl)) (by decide) (fun K hK => ?_)
     refine goes_ Try.func31 (by kernel_rfl) rfl #[.agg #[.int .u64 a0_0, .int .u64 a0_1]] (by rfl) rfl rfl (by (try simp only [List.map_toArray, List.map_cons, List.map_nil]); first | done | rfl | (simp only [List.length_drop, List.length_take]; rfl)) ?_
     with_reducible refine (posternref15_Hi.calls a0_0 a0_1 t263 _ A6.out).mono ?_
     rintro e w124 ⟨rfl, hb⟩
     refine ⟨_, rfl, ?_⟩
     have n0_ := Aside0.mk (blk_below (g := gb259) (o := .cells #[.int .u64 a0_0, .int .u64 a0_1] 58 (0, 0)) (by (with_reducible repeat (first | apply bN | apply bD | apply bA)); exact BK259.out) hb)
     have n1_ := Aside0.mk (blk_below (g := gb260) (o := .cells #[.int .u64 a1_0, .int .u64 a1_1] 58 (0, 0)) (by (with_reducible repeat (first | apply bN | apply bD | apply bA)); exact BK260.out) hb)
     have n2_ := Aside0.mk (below_step (by repeat (first | (with_reducible first | exact HB.out | apply lA | apply lN | apply lD | refine lS ?_ ‹_›) | exact HB.out)) hb)
     clear BK259; clear BK260; clear HB; have BK259 := n0_; have BK260 := n1_; have HB := n2_; clear n0_ n1_ n2_
     (try clear hb)
     (try clear hb2)
     (try clear hk)
     (try clear hi)
     refine hK.out _ _ ⟨(blk_cell BK259.out 0).trans rfl, (blk_cell BK259.out 1).trans rfl, (blk_cell BK260.out 0).trans rfl, (blk_cell BK260.out 1).trans rfl⟩ (fun hHeld => ?_)
     clear hK K
     refine norm_ (a' := ?_) ?_ ?_
     rotate_left
     ·
      show Act.put _ (some 20) _ = _
      simp only [Act.put, List.setIfInBounds_toArray, List.set_cons_zero, List.set_cons_succ, i64_w, i32_w]
      rfl
     refine one_ (i := 5) (N := some 22) #[true, true, true, true, true, true, true, false, false, false, false, false] rfl rfl (one_of HT_.out (by kernel_rfl)) (by decide) (fun K hK => ?_)
     refine goes_ Try.func30 (by kernel_rfl) rfl #[.agg #[.int .u64 a1_0, .int .u64 a1_1]] (by rfl) rfl rfl (by (try simp only [List.map_toArray, List.map_cons, List.map_nil]); first | done | rfl | (simp only [List.length_drop, List.length_take]; rfl)) ?_
     with_reducible refine (posternref15_Lo.calls a1_0 a1_1 t264 _ A7.out).mono ?_
     rintro e w125 ⟨rfl, hb⟩
     refine ⟨_, rfl, ?_⟩
     have n0_ := Aside0.mk (blk_below (g := gb259) (o := .cells #[.int .u64 a0_0, .int .u64 a0_1] 58 (0, 0)) (by (with_reducible repeat (first | apply bN | apply bD | apply bA)); exact BK259.out) hb)
     have n1_ := Aside0.mk (blk_below (g := gb260) (o := .cells #[.int .u64 a1_0, .int .u64 a1_1] 58 (0, 0)) (by (with_reducible repeat (first | apply bN | apply bD | apply bA)); exact BK260.out) hb)
     have n2_ := Aside0.mk (below_step (by repeat (first | (with_reducible first | exact HB.out | apply lA | apply lN | apply lD | refine lS ?_ ‹_›) | exact HB.out)) hb)
     clear BK259; clear BK260; clear HB; have BK259 := n0_; have BK260 := n1_; have HB := n2_; clear n0_ n1_ n2_
     (try clear hb)
     (try clear hb2)
     (try clear hk)
     (try clear hi)
     refine hK.out _ _ ⟨(blk_cell BK259.out 0).trans rfl, (blk_cell BK259.out 1).trans rfl, (blk_cell BK260.out 0).trans rfl, (blk_cell BK260.out 1).trans rfl⟩ (fun hHeld => ?_)
     clear hK K
     refine norm_ (a' := ?_) ?_ ?_
     rotate_left
     ·
      show Act.put _ (some 22) _ = _
      simp only [Act.put, List.setIfInBounds_toArray, List.set_cons_zero, List.set_cons_succ, i64_w, i32_w]
      rfl
     refine one_ (i := 7) (N := some 24) #[true, true, true, true, true, true, true, true, false, false, false, false] rfl rfl (one_of HT_.out (by kernel_rfl)) (by decide) (fun K hK => ?_)
     refine goes_ Try.func31 (by kernel_rfl) rfl #[.agg #[.int .u64 a1_0, .int .u64 a1_1]] (by rfl) rfl rfl (by (try simp only [List.map_toArray, List.map_cons, List.map_nil]); first | done | rfl | (simp only [List.length_drop, List.length_take]; rfl)) ?_
     with_reducible refine (posternref15_Hi.calls a1_0 a1_1 t265 _ A8.out).mono ?_
     rintro e w126 ⟨rfl, hb⟩
     refine ⟨_, rfl, ?_⟩
     have n0_ := Aside0.mk (blk_below (g := gb259) (o := .cells #[.int .u64 a0_0, .int .u64 a0_1] 58 (0, 0)) (by (with_reducible repeat (first | apply bN | apply bD | apply bA)); exact BK259.out) hb)
     have n1_ := Aside0.mk (blk_below (g := gb260) (o := .cells #[.int .u64 a1_0, .int .u64 a1_1] 58 (0, 0)) (by (with_reducible repeat (first | apply bN | apply bD | apply bA)); exact BK260.out) hb)
     have n2_ := Aside0.mk (below_step (by repeat (first | (with_reducible first | exact HB.out | apply lA | apply lN | apply lD | refine lS ?_ ‹_›) | exact HB.out)) hb)
     clear BK259; clear BK260; clear HB; have BK259 := n0_; have BK260 := n1_; have HB := n2_; clear n0_ n1_ n2_
     (try clear hb)
     (try clear hb2)
     (try clear hk)
     (try clear hi)
     refine hK.out _ _ ⟨(blk_cell BK259.out 0).trans rfl, (blk_cell BK259.out 1).trans rfl, (blk_cell BK260.out 0).trans rfl, (blk_cell BK260.out 1).trans rfl⟩ (fun hHeld => ?_)
     clear hK K
     refine norm_ (a' := ?_) ?_ ?_
     rotate_left
     ·
      show Act.put _ (some 24) _ = _
      simp only [Act.put, List.setIfInBounds_toArray, List.set_cons_zero, List.set_cons_succ, i64_w, i32_w]
      rfl
     refine pure_ (i := 8) (N := some 5) (v := ?_) (a' := ?_) #[true, true, true, true, true, true, true, true, true, false, false, false] rfl rfl (any_of HT_.out (by kernel_rfl)) (fun _ _ _ h => h) (Or.inl ⟨by rfl, ?_⟩) ?_ ?_
     rotate_left
     ·
      intro w'
      go_simp; with_reducible rfl
     rotate_left
     ·
      simp only [Act.put, List.setIfInBounds_toArray, List.set_cons_zero, List.set_cons_succ, i64_w, i32_w]
      rfl
     refine pure_ (i := 9) (N := some 6) (v := ?_) (a' := ?_) #[true, true, true, true, true, true, true, true, true, true, false, false] rfl rfl (any_of HT_.out (by kernel_rfl)) (fun _ _ _ h => h) (Or.inl ⟨by rfl, ?_⟩) ?_ ?_
     rotate_left
     ·
      intro w'
      go_simp; with_reducible rfl
     rotate_left
     ·
      simp only [Act.put, List.setIfInBounds_toArray, List.set_cons_zero, List.set_cons_succ, i64_w, i32_w]
      rfl
     refine pure_ (i := 10) (N := some 7) (v := ?_) (a' := ?_) #[true, true, true, true, true, true, true, true, true, true, true, false] rfl rfl (any_of HT_.out (by kernel_rfl)) (fun _ _ _ h => h) (Or.inl ⟨by rfl, ?_⟩) ?_ ?_
     rotate_left
     ·
      intro w'
      go_simp; with_reducible rfl
     rotate_left
     ·
      simp only [Act.put, List.setIfInBounds_toArray, List.set_cons_zero, List.set_cons_succ, i64_w, i32_w]
      rfl
     refine pure_ (i := 11) (N := some 8) (v := ?_) (a' := ?_) #[true, true, true, true, true, true, true, true, true, true, true, true] rfl rfl (any_of HT_.out (by kernel_rfl)) (fun _ _ _ h => h) (Or.inl ⟨by rfl, ?_⟩) ?_ ?_
     rotate_left
     ·
      intro w'
      go_simp; with_reducible rfl
     rotate_left
     ·
      simp only [Act.put, List.setIfInBounds_toArray, List.set_cons_zero, List.set_cons_succ, i64_w, i32_w]
      rfl
     refine done_ (done_of HT_.out (by kernel_rfl)) ?_
     have hnb127 := NB259_260.out; have hnc127 := NB260_259.out; have hcz128_0 : w126.cell? ⟨gb259, 0, none⟩ = some (.int .u64 a0_0) := (blk_cell BK259.out 0).trans rfl; have hcz128_1 : w126.cell? ⟨gb259, 1, none⟩ = some (.int .u64 a0_1) := (blk_cell BK259.out 1).trans rfl; have hfz128_0 := blk_frozen BK259.out 0; have hfz128_1 := blk_frozen BK259.out 1; have hcz129_0 : w126.cell? ⟨gb260, 0, none⟩ = some (.int .u64 a1_0) := (blk_cell BK260.out 0).trans rfl; have hcz129_1 : w126.cell? ⟨gb260, 1, none⟩ = some (.int .u64 a1_1) := (blk_cell BK260.out 1).trans rfl; have hfz129_0 := blk_frozen BK260.out 0; have hfz129_1 := blk_frozen BK260.out 1
     try go_wp2_with (first | ((with_reducible refine gate_callee (f := 32) rfl ?_); refine goesL_ (some 28) rfl rfl Try.func32 (by kernel_rfl) rfl #[.int .i64 0, .bool true, .agg #[.int .u64 a0_0, .int .u64 a0_1], .agg #[.int .u64 a1_0, .int .u64 a1_1]] rfl (by (try simp only [List.map_toArray, List.map_cons, List.map_nil]); first | done | rfl | (simp only [List.length_drop, List.length_take]; rfl)) ?_; (with_reducible refine (span_Do.calls k 0 true a0_0 a0_1 a1_0 a1_1 t266 t267 t268 _ A9.out).mono ?_); rintro e w130 ⟨rfl, hb⟩; refine ⟨_, rfl, ?_⟩; have n0_ := Aside0.mk (blk_below (g := gb259) (o := .cells #[.int .u64 a0_0, .int .u64 a0_1] 58 (0, 0)) (by (with_reducible repeat (first | apply bN | apply bD | apply bA)); exact BK259.out) hb); have n1_ := Aside0.mk (blk_below (g := gb260) (o := .cells #[.int .u64 a1_0, .int .u64 a1_1] 58 (0, 0)) (by (with_reducible repeat (first | apply bN | apply bD | apply bA)); exact BK260.out) hb); have n2_ := Aside0.mk (below_step (by repeat (first | (with_reducible first | exact HB.out | apply lA | apply lN | apply lD | refine lS ?_ ‹_›) | exact HB.out)) hb); clear BK259; clear BK260; clear HB; have BK259 := n0_; have BK260 := n1_; have HB := n2_; clear n0_ n1_ n2_; (try clear hb); (try clear hb2); (try clear hk); (try clear hi)) | ((with_reducible refine gate_dst (N := 9) rfl ?_); refine box_event ?hg (N := 9) ?hd (cs := #[.int .u64 0, .int .u64 0]) (t := 58) ?hr ?_; (case hd => rfl); (case hg => rfl); (case hr => first | (go_simp; done) | (go_simp; rfl)); intro gb269 hg w131 hbox hb; have n0_ := Aside0.mk (blk_below (g := gb259) (o := .cells #[.int .u64 a0_0, .int .u64 a0_1] 58 (0, 0)) (by (with_reducible repeat (first | apply bN | apply bD | apply bA)); exact BK259.out) hb); have n1_ := Aside0.mk (blk_below (g := gb260) (o := .cells #[.int .u64 a1_0, .int .u64 a1_1] 58 (0, 0)) (by (with_reducible repeat (first | apply bN | apply bD | apply bA)); exact BK260.out) hb); have n2_ := Aside0.mk (below_step (by repeat (first | (with_reducible first | exact HB.out | apply lA | apply lN | apply lD | refine lS ?_ ‹_›) | exact HB.out)) hb); have n3_ := Aside0.mk (hbox); have n4_ := Aside0.mk ((by rw [hg]; exact (below_size (by repeat (first | (with_reducible first | exact HB.out | apply lA | apply lN | apply lD | refine lS ?_ ‹_›) | exact HB.out))) : w.heap.size ≤ gb269)); have n5_ := n4_; have n6_ := Aside0.mk ((by rw [hg]; exact Nat.ne_of_lt (blk_lt (g := gb259) (o := .cells #[.int .u64 a0_0, .int .u64 a0_1] 58 (0, 0)) (by (with_reducible repeat (first | apply bN | apply bD | apply bA)); exact BK259.out)) : gb259 ≠ gb269)); have n7_ := sy n6_; have n8_ := Aside0.mk ((by rw [hg]; exact Nat.ne_of_lt (blk_lt (g := gb260) (o := .cells #[.int .u64 a1_0, .int .u64 a1_1] 58 (0, 0)) (by (with_reducible repeat (first | apply bN | apply bD | apply bA)); exact BK260.out)) : gb260 ≠ gb269)); have n9_ := sy n8_; clear BK259; clear BK260; clear HB; have BK259 := n0_; have BK260 := n1_; have HB := n2_; have BK269 := n3_; have GW269 := n4_; have GE269 := n5_; have NB259_269 := n6_; have NB269_259 := n7_; have NB260_269 := n8_; have NB269_260 := n9_; clear n0_ n1_ n2_ n3_ n4_ n5_ n6_ n7_ n8_ n9_; clear hb hbox hg; have hnb132 := NB269_259.out; have hnc132 := NB259_269.out; have hnb133 := NB269_260.out; have hnc133 := NB260_269.out; have hcz134_0 : w131.cell? ⟨gb269, 0, none⟩ = some (.int .u64 0) := (blk_cell BK269.out 0).trans rfl; have hcz134_1 : w131.cell? ⟨gb269, 1, none⟩ = some (.int .u64 0) := (blk_cell BK269.out 1).trans rfl; have hfz134_0 := blk_frozen BK269.out 0; have hfz134_1 := blk_frozen BK269.out 1; have hcz135_0 : w131.cell? ⟨gb259, 0, none⟩ = some (.int .u64 a0_0) := (blk_cell BK259.out 0).trans rfl; have hcz135_1 : w131.cell? ⟨gb259, 1, none⟩ = some (.int .u64 a0_1) := (blk_cell BK259.out 1).trans rfl; have hfz135_0 := blk_frozen BK259.out 0; have hfz135_1 := blk_frozen BK259.out 1; have hcz136_0 : w131.cell? ⟨gb260, 0, none⟩ = some (.int .u64 a1_0) := (blk_cell BK260.out 0).trans rfl; have hcz136_1 : w131.cell? ⟨gb260, 1, none⟩ = some (.int .u64 a1_1) := (blk_cell BK260.out 1).trans rfl; have hfz136_0 := blk_frozen BK260.out 0; have hfz136_1 := blk_frozen BK260.out 1) | ((with_reducible refine gate_callee (f := 32) rfl ?_); refine goesL_ (some 34) rfl rfl Try.func32 (by kernel_rfl) rfl #[.int .i64 16, .bool true, .agg #[.int .u64 a0_0, .int .u64 a0_1], .agg #[.int .u64 a1_0, .int .u64 a1_1]] rfl (by (try simp only [List.map_toArray, List.map_cons, List.map_nil]); first | done | rfl | (simp only [List.length_drop, List.length_take]; rfl)) ?_; (with_reducible refine (span_Do.calls k 16 true a0_0 a0_1 a1_0 a1_1 t270 t271 t272 _ A10.out).mono ?_); rintro e w137 ⟨rfl, hb⟩; refine ⟨_, rfl, ?_⟩; have n0_ := Aside0.mk (blk_below (g := gb259) (o := .cells #[.int .u64 a0_0, .int .u64 a0_1] 58 (0, 0)) (by (with_reducible repeat (first | apply bN | apply bD | apply bA)); refine blk_far ?_ NB259_269.out _; (with_reducible repeat (first | apply bN | apply bD | apply bA)); refine blk_far ?_ NB259_269.out _; (with_reducible repeat (first | apply bN | apply bD | apply bA)); exact BK259.out) hb); have n1_ := Aside0.mk (blk_below (g := gb260) (o := .cells #[.int .u64 a1_0, .int .u64 a1_1] 58 (0, 0)) (by (with_reducible repeat (first | apply bN | apply bD | apply bA)); refine blk_far ?_ NB260_269.out _; (with_reducible repeat (first | apply bN | apply bD | apply bA)); refine blk_far ?_ NB260_269.out _; (with_reducible repeat (first | apply bN | apply bD | apply bA)); exact BK260.out) hb); have n2_ := Aside0.mk (blk_below (g := gb269) (o := .cells #[.int .u64 t266, .int .u64 t267] 58 (0, 0)) (by (with_reducible repeat (first | apply bN | apply bD | apply bA)); refine blk_put (cs := #[.int .u64 t266, .int .u64 0]) ?_ 1 _ rfl; (with_reducible repeat (first | apply bN | apply bD | apply bA)); refine blk_put (cs := #[.int .u64 0, .int .u64 0]) ?_ 0 _ rfl; (with_reducible repeat (first | apply bN | apply bD | apply bA)); exact BK269.out) hb); have n3_ := Aside0.mk (below_step (by repeat (first | (with_reducible first | exact HB.out | apply lA | apply lN | apply lD | refine lS ?_ ‹_›) | exact HB.out)) hb); clear BK259; clear BK260; clear BK269; clear HB; have BK259 := n0_; have BK260 := n1_; have BK269 := n2_; have HB := n3_; clear n0_ n1_ n2_ n3_; (try clear hb); (try clear hb2); (try clear hk); (try clear hi)) | ((with_reducible refine gate_dst (N := 11) rfl ?_); refine box_event ?hg (N := 11) ?hd (cs := #[.int .u64 0, .int .u64 0]) (t := 58) ?hr ?_; (case hd => rfl); (case hg => rfl); (case hr => first | (go_simp; done) | (go_simp; rfl)); intro gb273 hg w138 hbox hb; have n0_ := Aside0.mk (blk_below (g := gb259) (o := .cells #[.int .u64 a0_0, .int .u64 a0_1] 58 (0, 0)) (by (with_reducible repeat (first | apply bN | apply bD | apply bA)); exact BK259.out) hb); have n1_ := Aside0.mk (blk_below (g := gb260) (o := .cells #[.int .u64 a1_0, .int .u64 a1_1] 58 (0, 0)) (by (with_reducible repeat (first | apply bN | apply bD | apply bA)); exact BK260.out) hb); have n2_ := Aside0.mk (blk_below (g := gb269) (o := .cells #[.int .u64 t266, .int .u64 t267] 58 (0, 0)) (by (with_reducible repeat (first | apply bN | apply bD | apply bA)); exact BK269.out) hb); have n3_ := Aside0.mk (below_step (by repeat (first | (with_reducible first | exact HB.out | apply lA | apply lN | apply lD | refine lS ?_ ‹_›) | exact HB.out)) hb); have n4_ := Aside0.mk (hbox); have n5_ := Aside0.mk ((by rw [hg]; exact (below_size (by repeat (first | (with_reducible first | exact HB.out | apply lA | apply lN | apply lD | refine lS ?_ ‹_›) | exact HB.out))) : w.heap.size ≤ gb273)); have n6_ := n5_; have n7_ := Aside0.mk ((by rw [hg]; exact Nat.ne_of_lt (blk_lt (g := gb259) (o := .cells #[.int .u64 a0_0, .int .u64 a0_1] 58 (0, 0)) (by (with_reducible repeat (first | apply bN | apply bD | apply bA)); exact BK259.out)) : gb259 ≠ gb273)); have n8_ := sy n7_; have n9_ := Aside0.mk ((by rw [hg]; exact Nat.ne_of_lt (blk_lt (g := gb260) (o := .cells #[.int .u64 a1_0, .int .u64 a1_1] 58 (0, 0)) (by (with_reducible repeat (first | apply bN | apply bD | apply bA)); exact BK260.out)) : gb260 ≠ gb273)); have n10_ := sy n9_; have n11_ := Aside0.mk ((by rw [hg]; exact Nat.ne_of_lt (blk_lt (g := gb269) (o := .cells #[.int .u64 t266, .int .u64 t267] 58 (0, 0)) (by (with_reducible repeat (first | apply bN | apply bD | apply bA)); exact BK269.out)) : gb269 ≠ gb273)); have n12_ := sy n11_; clear BK259; clear BK260; clear BK269; clear HB; have BK259 := n0_; have BK260 := n1_; have BK269 := n2_; have HB := n3_; have BK273 := n4_; have GW273 := n5_; have GE273 := n6_; have NB259_273 := n7_; have NB273_259 := n8_; have NB260_273 := n9_; have NB273_260 := n10_; have NB269_273 := n11_; have NB273_269 := n12_; clear n0_ n1_ n2_ n3_ n4_ n5_ n6_ n7_ n8_ n9_ n10_ n11_ n12_; clear hb hbox hg; have hnb139 := NB273_259.out; have hnc139 := NB259_273.out; have hnb140 := NB273_260.out; have hnc140 := NB260_273.out; have hnb141 := NB273_269.out; have hnc141 := NB269_273.out; have hcz142_0 : w138.cell? ⟨gb273, 0, none⟩ = some (.int .u64 0) := (blk_cell BK273.out 0).trans rfl; have hcz142_1 : w138.cell? ⟨gb273, 1, none⟩ = some (.int .u64 0) := (blk_cell BK273.out 1).trans rfl; have hfz142_0 := blk_frozen BK273.out 0; have hfz142_1 := blk_frozen BK273.out 1; have hcz143_0 : w138.cell? ⟨gb259, 0, none⟩ = some (.int .u64 a0_0) := (blk_cell BK259.out 0).trans rfl; have hcz143_1 : w138.cell? ⟨gb259, 1, none⟩ = some (.int .u64 a0_1) := (blk_cell BK259.out 1).trans rfl; have hfz143_0 := blk_frozen BK259.out 0; have hfz143_1 := blk_frozen BK259.out 1; have hcz144_0 : w138.cell? ⟨gb260, 0, none⟩ = some (.int .u64 a1_0) := (blk_cell BK260.out 0).trans rfl; have hcz144_1 : w138.cell? ⟨gb260, 1, none⟩ = some (.int .u64 a1_1) := (blk_cell BK260.out 1).trans rfl; have hfz144_0 := blk_frozen BK260.out 0; have hfz144_1 := blk_frozen BK260.out 1) | ((with_reducible refine gate_callee (f := 32) rfl ?_); refine goesL_ (some 40) rfl rfl Try.func32 (by kernel_rfl) rfl #[.int .i64 176, .bool true, .agg #[.int .u64 a0_0, .int .u64 a0_1], .agg #[.int .u64 a1_0, .int .u64 a1_1]] rfl (by (try simp only [List.map_toArray, List.map_cons, List.map_nil]); first | done | rfl | (simp only [List.length_drop, List.length_take]; rfl)) ?_; (with_reducible refine (span_Do.calls k 176 true a0_0 a0_1 a1_0 a1_1 t274 t275 t276 _ A11.out).mono ?_); rintro e w145 ⟨rfl, hb⟩; refine ⟨_, rfl, ?_⟩; have n0_ := Aside0.mk (blk_below (g := gb259) (o := .cells #[.int .u64 a0_0, .int .u64 a0_1] 58 (0, 0)) (by (with_reducible repeat (first | apply bN | apply bD | apply bA)); refine blk_far ?_ NB259_273.out _; (with_reducible repeat (first | apply bN | apply bD | apply bA)); refine blk_far ?_ NB259_273.out _; (with_reducible repeat (first | apply bN | apply bD | apply bA)); exact BK259.out) hb); have n1_ := Aside0.mk (blk_below (g := gb260) (o := .cells #[.int .u64 a1_0, .int .u64 a1_1] 58 (0, 0)) (by (with_reducible repeat (first | apply bN | apply bD | apply bA)); refine blk_far ?_ NB260_273.out _; (with_reducible repeat (first | apply bN | apply bD | apply bA)); refine blk_far ?_ NB260_273.out _; (with_reducible repeat (first | apply bN | apply bD | apply bA)); exact BK260.out) hb); have n2_ := Aside0.mk (blk_below (g := gb269) (o := .cells #[.int .u64 t266, .int .u64 t267] 58 (0, 0)) (by (with_reducible repeat (first | apply bN | apply bD | apply bA)); refine blk_far ?_ NB269_273.out _; (with_reducible repeat (first | apply bN | apply bD | apply bA)); refine blk_far ?_ NB269_273.out _; (with_reducible repeat (first | apply bN | apply bD | apply bA)); exact BK269.out) hb); have n3_ := Aside0.mk (blk_below (g := gb273) (o := .cells #[.int .u64 t270, .int .u64 t271] 58 (0, 0)) (by (with_reducible repeat (first | apply bN | apply bD | apply bA)); refine blk_put (cs := #[.int .u64 t270, .int .u64 0]) ?_ 1 _ rfl; (with_reducible repeat (first | apply bN | apply bD | apply bA)); refine blk_put (cs := #[.int .u64 0, .int .u64 0]) ?_ 0 _ rfl; (with_reducible repeat (first | apply bN | apply bD | apply bA)); exact BK273.out) hb); have n4_ := Aside0.mk (below_step (by repeat (first | (with_reducible first | exact HB.out | apply lA | apply lN | apply lD | refine lS ?_ ‹_›) | exact HB.out)) hb); clear BK259; clear BK260; clear BK269; clear BK273; clear HB; have BK259 := n0_; have BK260 := n1_; have BK269 := n2_; have BK273 := n3_; have HB := n4_; clear n0_ n1_ n2_ n3_ n4_; (try clear hb); (try clear hb2); (try clear hk); (try clear hi)) | ((with_reducible refine gate_dst (N := 13) rfl ?_); refine box_event ?hg (N := 13) ?hd (cs := #[.int .u64 0, .int .u64 0]) (t := 58) ?hr ?_; (case hd => rfl); (case hg => rfl); (case hr => first | (go_simp; done) | (go_simp; rfl)); intro gb277 hg w146 hbox hb; have n0_ := Aside0.mk (blk_below (g := gb259) (o := .cells #[.int .u64 a0_0, .int .u64 a0_1] 58 (0, 0)) (by (with_reducible repeat (first | apply bN | apply bD | apply bA)); exact BK259.out) hb); have n1_ := Aside0.mk (blk_below (g := gb260) (o := .cells #[.int .u64 a1_0, .int .u64 a1_1] 58 (0, 0)) (by (with_reducible repeat (first | apply bN | apply bD | apply bA)); exact BK260.out) hb); have n2_ := Aside0.mk (blk_below (g := gb269) (o := .cells #[.int .u64 t266, .int .u64 t267] 58 (0, 0)) (by (with_reducible repeat (first | apply bN | apply bD | apply bA)); exact BK269.out) hb); have n3_ := Aside0.mk (blk_below (g := gb273) (o := .cells #[.int .u64 t270, .int .u64 t271] 58 (0, 0)) (by (with_reducible repeat (first | apply bN | apply bD | apply bA)); exact BK273.out) hb); have n4_ := Aside0.mk (below_step (by repeat (first | (with_reducible first | exact HB.out | apply lA | apply lN | apply lD | refine lS ?_ ‹_›) | exact HB.out)) hb); have n5_ := Aside0.mk (hbox); have n6_ := Aside0.mk ((by rw [hg]; exact (below_size (by repeat (first | (with_reducible first | exact HB.out | apply lA | apply lN | apply lD | refine lS ?_ ‹_›) | exact HB.out))) : w.heap.size ≤ gb277)); have n7_ := n6_; have n8_ := Aside0.mk ((by rw [hg]; exact Nat.ne_of_lt (blk_lt (g := gb259) (o := .cells #[.int .u64 a0_0, .int .u64 a0_1] 58 (0, 0)) (by (with_reducible repeat (first | apply bN | apply bD | apply bA)); exact BK259.out)) : gb259 ≠ gb277)); have n9_ := sy n8_; have n10_ := Aside0.mk ((by rw [hg]; exact Nat.ne_of_lt (blk_lt (g := gb260) (o := .cells #[.int .u64 a1_0, .int .u64 a1_1] 58 (0, 0)) (by (with_reducible repeat (first | apply bN | apply bD | apply bA)); exact BK260.out)) : gb260 ≠ gb277)); have n11_ := sy n10_; have n12_ := Aside0.mk ((by rw [hg]; exact Nat.ne_of_lt (blk_lt (g := gb269) (o := .cells #[.int .u64 t266, .int .u64 t267] 58 (0, 0)) (by (with_reducible repeat (first | apply bN | apply bD | apply bA)); exact BK269.out)) : gb269 ≠ gb277)); have n13_ := sy n12_; have n14_ := Aside0.mk ((by rw [hg]; exact Nat.ne_of_lt (blk_lt (g := gb273) (o := .cells #[.int .u64 t270, .int .u64 t271] 58 (0, 0)) (by (with_reducible repeat (first | apply bN | apply bD | apply bA)); exact BK273.out)) : gb273 ≠ gb277)); have n15_ := sy n14_; clear BK259; clear BK260; clear BK269; clear BK273; clear HB; have BK259 := n0_; have BK260 := n1_; have BK269 := n2_; have BK273 := n3_; have HB := n4_; have BK277 := n5_; have GW277 := n6_; have GE277 := n7_; have NB259_277 := n8_; have NB277_259 := n9_; have NB260_277 := n10_; have NB277_260 := n11_; have NB269_277 := n12_; have NB277_269 := n13_; have NB273_277 := n14_; have NB277_273 := n15_; clear n0_ n1_ n2_ n3_ n4_ n5_ n6_ n7_ n8_ n9_ n10_ n11_ n12_ n13_ n14_ n15_; clear hb hbox hg; have hnb147 := NB277_259.out; have hnc147 := NB259_277.out; have hnb148 := NB277_260.out; have hnc148 := NB260_277.out; have hnb149 := NB277_269.out; have hnc149 := NB269_277.out; have hnb150 := NB277_273.out; have hnc150 := NB273_277.out; have hcz151_0 : w146.cell? ⟨gb277, 0, none⟩ = some (.int .u64 0) := (blk_cell BK277.out 0).trans rfl; have hcz151_1 : w146.cell? ⟨gb277, 1, none⟩ = some (.int .u64 0) := (blk_cell BK277.out 1).trans rfl; have hfz151_0 := blk_frozen BK277.out 0; have hfz151_1 := blk_frozen BK277.out 1; have hcz152_0 : w146.cell? ⟨gb273, 0, none⟩ = some (.int .u64 t270) := (blk_cell BK273.out 0).trans rfl; have hcz152_1 : w146.cell? ⟨gb273, 1, none⟩ = some (.int .u64 t271) := (blk_cell BK273.out 1).trans rfl; have hfz152_0 := blk_frozen BK273.out 0; have hfz152_1 := blk_frozen BK273.out 1))
     go_ret
     exact ⟨by first | rfl | (simp [errW_none, errW_some] <;> rfl) | (simp [*, errW_none, errW_some] <;> rfl), by repeat (first | (with_reducible first | exact HB.out | apply lA | apply lN | apply lD | refine lS ?_ ‹_›) | exact HB.out)⟩
 ·
  replace c4 := Bool.eq_false_iff.mpr c4
  subst c4
  have H1 : (some false) = some r := by rw [if_neg (show ¬ (false = true) by decide)] at H; exact H
  clear H; have H := H1; clear H1
  exact absurd (H.trans (congrArg some hr_.out)) (by simp)

end Go.Proofs.Ytladlljnpmpdpaa.PSpanBest
