-- Written by a program of this session (a variant of the print), for this claim. Lean checks it.
import Derived.Test.YtladlljnpmpdpaaPSpanEndsx0
import Derived.Test.YtladlljnpmpdpaaPSpanEndsx10
import Derived.Test.YtladlljnpmpdpaaPSpanEndsx11
namespace Go.Proofs.Ytladlljnpmpdpaa.PSpanEnds
open Go.RowKit Go.Proofs.YtladlljnpmpdpaaW.PrintWords Go.Proofs.YtladlljnpmpdpaaW.PrintLast Go.Proofs.YtladlljnpmpdpaaW.PrintMore
attribute [local go_sem] max2_int min2_int max_two min_two max_three min_three max_four min_four   -- for this text's walks alone
attribute [local go_sem high] Go.Proofs.Ytladlljnpmpdpaa.NotLaw.not_u64 Go.Proofs.Ytladlljnpmpdpaa.NotLaw.not_u32 Go.Proofs.Ytladlljnpmpdpaa.NotLaw.not_u16 Go.Proofs.Ytladlljnpmpdpaa.NotLaw.not_u8
set_option linter.unusedVariables false
set_option linter.unusedSimpArgs false

/-! ### posternlaw15_SpanEnds: function 10 -/
def posternlaw15_SpanEnds.j0 : Nat → Bool → Int → Int → Int → Int → Int → Option (Bool)
 | 0, _, _, _, _, _, _ => none
 | k + 1, x1, x7, x276000, x276001, x276002, x276003 => (span_Narrow.f k x7 true x1 x276000 x276001 x276002 x276003).bind fun bt281 => (if bt281.2.2.2.2.2 = 0 then (if bt281.2.2.2.2.1 = true then ((posternlaw15_pair.f k x7 x1 bt281.1 x276002 x276003 true).bind fun t295 => (if t295 = true then ((posternlaw15_pair.f k x7 x1 bt281.2.1 x276002 x276003 true).bind fun t296 => (if t296 = true then ((posternlaw15_pair.f k x7 x1 bt281.2.2.1 x276000 x276001 false).bind fun t297 => (if t297 = true then ((posternlaw15_pair.f k x7 x1 bt281.2.2.2.1 x276000 x276001 false).bind fun t298 => (some t298)) else (some false))) else (some false))) else (some false))) else ((posternref15_Lo.f x276000 x276001).bind fun t289 => ((posternlaw15_pair.f k x7 x1 t289 x276002 x276003 true).bind fun t290 => (if t290 = true then (some false) else ((posternref15_Hi.f x276000 x276001).bind fun t291 => ((posternlaw15_pair.f k x7 x1 t291 x276002 x276003 true).bind fun t292 => (if t292 = true then (some false) else (if x7 = 16 then ((posternref15_Lo.f x276002 x276003).bind fun t293 => ((posternlaw15_pair.f k x7 x1 t293 x276000 x276001 false).bind fun t294 => (some (!t294)))) else (some (!false)))))))))) else (some false))
def posternlaw15_SpanEnds.f (k : Nat) (a0 : Int) (a1 : Bool) (a2_0 : Int) (a2_1 : Int) (a2_2 : Int) (a2_3 : Int) : Option (Bool) := (posternlaw15_first.f k).bind fun t276 => (if t276 = true then ((some (([32, 48, 160, 176, 16] : List Int) : List Int)).bind fun y277 => (if 0 ≤ (wrap64 (Int.tmod (IntKind.u64.wrap (a0)) 5)) then (if (wrap64 (Int.tmod (IntKind.u64.wrap (a0)) 5)) < (y277.length : Int) then (if (rd y277 (wrap64 (Int.tmod (IntKind.u64.wrap (a0)) 5))) = 16 then (posternlaw15_SpanEnds.j0 k true (rd y277 (wrap64 (Int.tmod (IntKind.u64.wrap (a0)) 5))) a2_0 a2_1 a2_2 a2_3) else (posternlaw15_SpanEnds.j0 k a1 (rd y277 (wrap64 (Int.tmod (IntKind.u64.wrap (a0)) 5))) a2_0 a2_1 a2_2 a2_3)) else (none)) else (none))) else (some false))
theorem posternlaw15_SpanEnds.mono_l : ∀ k, (∀ y0 y1 y2 y3 y4 y5, LeO (posternlaw15_SpanEnds.j0 k y0 y1 y2 y3 y4 y5) (posternlaw15_SpanEnds.j0 (k + 1) y0 y1 y2 y3 y4 y5))
 | 0 => fun _ _ _ _ _ _ r h => by simp [posternlaw15_SpanEnds.j0] at h
 | k + 1 => by
  have ih0 := posternlaw15_SpanEnds.mono_l k
  ·
   intro y0 y1 y2 y3 y4 y5
   unfold posternlaw15_SpanEnds.j0
   repeat' first
   | (with_reducible exact ih0 _ _ _ _ _ _)
   | (with_reducible exact posternlaw15_first.mono _)
   | (with_reducible exact posternlaw15_pair.mono _ _ _ _ _ _ _)
   | (with_reducible exact span_Narrow.mono _ _ _ _ _ _ _ _)
   | (with_reducible exact LeO.refl _)
   | (with_reducible exact LeO.none _)
   | (with_reducible refine LeO.ite ?_ ?_)
   | (with_reducible refine LeO.bind ?_ (fun _ => ?_))
   | exact ih0 _ _ _ _ _ _
   | exact posternlaw15_first.mono _
   | exact posternlaw15_pair.mono _ _ _ _ _ _ _
   | exact span_Narrow.mono _ _ _ _ _ _ _ _
   | exact LeO.none _
   | refine LeO.ite ?_ ?_
   | refine LeO.bind ?_ (fun _ => ?_)
theorem posternlaw15_SpanEnds.mono : ∀ a0 a1 a2 a3 a4 a5 k, LeO (posternlaw15_SpanEnds.f k a0 a1 a2 a3 a4 a5) (posternlaw15_SpanEnds.f (k + 1) a0 a1 a2 a3 a4 a5) := by
 intro a0 a1 a2 a3 a4 a5 k
 have ih0 := posternlaw15_SpanEnds.mono_l k
 unfold posternlaw15_SpanEnds.f
 repeat' first
   | (with_reducible exact ih0 _ _ _ _ _ _)
   | (with_reducible exact posternlaw15_first.mono _)
   | (with_reducible exact posternlaw15_pair.mono _ _ _ _ _ _ _)
   | (with_reducible exact span_Narrow.mono _ _ _ _ _ _ _ _)
   | (with_reducible exact LeO.refl _)
   | (with_reducible exact LeO.none _)
   | (with_reducible refine LeO.ite ?_ ?_)
   | (with_reducible refine LeO.bind ?_ (fun _ => ?_))
   | exact ih0 _ _ _ _ _ _
   | exact posternlaw15_first.mono _
   | exact posternlaw15_pair.mono _ _ _ _ _ _ _
   | exact span_Narrow.mono _ _ _ _ _ _ _ _
   | exact LeO.none _
   | refine LeO.ite ?_ ?_
   | refine LeO.bind ?_ (fun _ => ?_)
def posternlaw15_SpanEnds.T10 : Bool × List (List Nat × List Nat) := (true, [([], []), ([], []), ([], []), ([2], [2]), ([3], [3]), ([], []), ([5], [5]), ([0, 1, 4, 6, 4], [0, 1, 4, 6]), ([7], [7]), ([8, 7], [8]), ([9], [9]), ([9], [9]), ([9], [9]), ([12, 9], [9, 12]), ([13, 9, 9], [9, 13]), ([9], [9]), ([15, 9], [9, 15]), ([10, 11, 14, 16, 14, 9], [9, 10, 11, 14, 16]), ([17, 9], [9, 17]), ([9, 18], [9, 18]), ([19, 17], [19]), ([20], [20]), ([21, 20], [20, 21]), ([22, 20, 20], [20, 22]), ([23], [23]), ([23], [23]), ([23], [23]), ([26, 23], [23, 26]), ([27, 23, 23], [23, 27]), ([23], [23]), ([29, 23], [23, 29]), ([24, 25, 28, 30, 28, 23], [23, 24, 25, 28, 30]), ([23, 31, 20], [20, 23, 31]), ([32, 20], [20, 32]), ([20, 33], [20, 33]), ([34, 31, 0, 1, 2, 3, 4, 5, 6, 7, 8, 9, 10, 11, 12, 13, 14, 15, 16, 17, 18, 19, 20, 21, 22, 23, 24, 25, 26, 27, 28, 29, 30, 31, 32, 33, 34], [34])])
def posternlaw15_SpanEnds.B10 : List Nat := [0, 0, 0, 4, 12, 0, 32, 127, 255, 511, 1023, 1023, 1023, 5119, 13311, 1023, 33791, 131071, 262143, 524287, 1048575, 2097151, 4194303, 8388607, 16777215, 16777215, 16777215, 83886079, 218103807, 16777215, 553648127, 2147483647, 4294967295, 8589934591, 17179869183, 34359738367]
theorem posternlaw15_SpanEnds.tab10 : rtab .any (opsOf Try.f10 10) = posternlaw15_SpanEnds.T10 := by kernel_rfl
theorem posternlaw15_SpanEnds.bits10 : waitsOk posternlaw15_SpanEnds.T10.2 posternlaw15_SpanEnds.B10 = true := by kernel_rfl
set_option maxHeartbeats 8000000 in
set_option maxRecDepth 100000 in
theorem posternlaw15_SpanEnds.calls (k : Nat) (a0 : Int) (a1 : Bool) (a2_0 : Int) (a2_1 : Int) (a2_2 : Int) (a2_3 : Int) (r : Bool) (w : World) (hr_ : Aside0 (r = true)) (h : posternlaw15_SpanEnds.f k a0 a1 a2_0 a2_1 a2_2 a2_3 = some r) :
  Calls Try.prog 10 #[.int .i64 a0, .bool a1, .agg #[.int .u64 a2_0, .int .u64 a2_1, .int .u64 a2_2, .int .u64 a2_3]] w fun e w' => e = .returned (.bool r) ∧ Below w.heap.size w w' := by
 have hu63 := Try.underlying63
 have hu58 := Try.underlying58
 have HB := Aside0.mk (Below.refl w.heap.size w)
 have H : ((posternlaw15_first.f k).bind fun t276 => (if t276 = true then ((some (([32, 48, 160, 176, 16] : List Int) : List Int)).bind fun y277 => (if 0 ≤ (wrap64 (Int.tmod (IntKind.u64.wrap (a0)) 5)) then (if (wrap64 (Int.tmod (IntKind.u64.wrap (a0)) 5)) < (y277.length : Int) then (if (rd y277 (wrap64 (Int.tmod (IntKind.u64.wrap (a0)) 5))) = 16 then (posternlaw15_SpanEnds.j0 k true (rd y277 (wrap64 (Int.tmod (IntKind.u64.wrap (a0)) 5))) a2_0 a2_1 a2_2 a2_3) else (posternlaw15_SpanEnds.j0 k a1 (rd y277 (wrap64 (Int.tmod (IntKind.u64.wrap (a0)) 5))) a2_0 a2_1 a2_2 a2_3)) else (none)) else (none))) else (some false))) = some r := h
 clear h; replace H := Option.bind_eq_some_iff.mp H; obtain ⟨t276, A40, H⟩ := H
 replace H : (if t276 = true then ((some (([32, 48, 160, 176, 16] : List Int) : List Int)).bind fun y277 => (if 0 ≤ (wrap64 (Int.tmod (IntKind.u64.wrap (a0)) 5)) then (if (wrap64 (Int.tmod (IntKind.u64.wrap (a0)) 5)) < (y277.length : Int) then (if (rd y277 (wrap64 (Int.tmod (IntKind.u64.wrap (a0)) 5))) = 16 then (posternlaw15_SpanEnds.j0 k true (rd y277 (wrap64 (Int.tmod (IntKind.u64.wrap (a0)) 5))) a2_0 a2_1 a2_2 a2_3) else (posternlaw15_SpanEnds.j0 k a1 (rd y277 (wrap64 (Int.tmod (IntKind.u64.wrap (a0)) 5))) a2_0 a2_1 a2_2 a2_3)) else (none)) else (none))) else (some false)) = some r := H
 have A4 := Aside0.mk A40; clear A40
 by_cases c5 : t276 = true
 ·
  subst c5
  have H1 : ((some (([32, 48, 160, 176, 16] : List Int) : List Int)).bind fun y277 => (if 0 ≤ (wrap64 (Int.tmod (IntKind.u64.wrap (a0)) 5)) then (if (wrap64 (Int.tmod (IntKind.u64.wrap (a0)) 5)) < (y277.length : Int) then (if (rd y277 (wrap64 (Int.tmod (IntKind.u64.wrap (a0)) 5))) = 16 then (posternlaw15_SpanEnds.j0 k true (rd y277 (wrap64 (Int.tmod (IntKind.u64.wrap (a0)) 5))) a2_0 a2_1 a2_2 a2_3) else (posternlaw15_SpanEnds.j0 k a1 (rd y277 (wrap64 (Int.tmod (IntKind.u64.wrap (a0)) 5))) a2_0 a2_1 a2_2 a2_3)) else (none)) else (none))) = some r := by rw [if_pos rfl] at H; exact H
  clear H; have H := H1; clear H1
  obtain ⟨y277, hy277⟩ : ∃ y_ : List Int, y_ = (([32, 48, 160, 176, 16] : List Int)) := ⟨_, rfl⟩
  replace H : (if 0 ≤ (wrap64 (Int.tmod (IntKind.u64.wrap (a0)) 5)) then (if (wrap64 (Int.tmod (IntKind.u64.wrap (a0)) 5)) < (y277.length : Int) then (if (rd y277 (wrap64 (Int.tmod (IntKind.u64.wrap (a0)) 5))) = 16 then (posternlaw15_SpanEnds.j0 k true (rd y277 (wrap64 (Int.tmod (IntKind.u64.wrap (a0)) 5))) a2_0 a2_1 a2_2 a2_3) else (posternlaw15_SpanEnds.j0 k a1 (rd y277 (wrap64 (Int.tmod (IntKind.u64.wrap (a0)) 5))) a2_0 a2_1 a2_2 a2_3)) else (none)) else (none)) = some r := by first | (rw [hy277]; with_reducible exact H) | (have H2_ := (Option.bind_some _ _).symm.trans H; rw [hy277]; with_reducible exact H2_) | (have H2_ := (Option.bind_some _ _).symm.trans H; with_reducible exact H2_) | with_reducible exact H | (rw [hy277]; exact H) | exact H
  have Ny277 := Aside0.mk hy277
  clear hy277
  obtain ⟨ji6, hji6⟩ : ∃ j_ : Int, (wrap64 (Int.tmod (IntKind.u64.wrap (a0)) 5)) = j_ := ⟨_, rfl⟩
  replace H : (if 0 ≤ (ji6) then (if (ji6) < (y277.length : Int) then (if (rd y277 (ji6)) = 16 then (posternlaw15_SpanEnds.j0 k true (rd y277 (ji6)) a2_0 a2_1 a2_2 a2_3) else (posternlaw15_SpanEnds.j0 k a1 (rd y277 (ji6)) a2_0 a2_1 a2_2 a2_3)) else (none)) else (none)) = some r := by first | (rw [hji6] at H; exact H) | (simp only [hji6] at H ⊢; exact H)
  (try rw [hji6] at A4)
  have hji6w : (IntKind.i64.wrap (Int.tmod (IntKind.u64.wrap (a0)) 5)) = ji6 := (i64_w _).trans hji6
  by_cases c7 : 0 ≤ (ji6)
  ·
   rw [if_pos c7] at H
   have c7b0 : decide (0 ≤ (ji6)) = true := decide_eq_true c7; clear c7
   by_cases c8 : (ji6) < (y277.length : Int)
   ·
    rw [if_pos c8] at H
    have c8b0 : decide ((ji6) < (y277.length : Int)) = true := decide_eq_true c8; clear c8
    have HC9 := Aside0.mk H
    clear H
    go_enter Try.func10, Try.ntmps10
    go_upto_if 22 with (first | ((with_reducible refine gate_dst (N := 5) rfl ?_); refine box_event ?hg (N := 5) ?hd (cs := #[.int .u64 a2_0, .int .u64 a2_1, .int .u64 a2_2, .int .u64 a2_3]) (t := 63) ?hr ?_; (case hd => rfl); (case hg => rfl); (case hr => first | (go_simp; done) | (go_simp; rfl)); intro gb275 hg w10 hbox hb; have n0_ := Aside0.mk (below_step (by repeat (first | (with_reducible first | exact HB.out | apply lA | apply lN | apply lD) | exact HB.out)) hb); have n1_ := Aside0.mk (hbox); have n2_ := Aside0.mk ((by rw [hg]; exact (below_size (by repeat (first | (with_reducible first | exact HB.out | apply lA | apply lN | apply lD) | exact HB.out))) : w.heap.size ≤ gb275)); have n3_ := n2_; clear HB; have HB := n0_; have BK275 := n1_; have GW275 := n2_; have GE275 := n3_; clear n0_ n1_ n2_ n3_; clear hb hbox hg) | ((with_reducible refine gate_callee (f := 29) rfl ?_); refine goesL_ (some 12) rfl rfl Try.func29 (by kernel_rfl) rfl #[] rfl (by (try simp only [List.map_toArray, List.map_cons, List.map_nil]); first | done | rfl | (simp only [List.length_drop, List.length_take]; rfl)) ?_; (with_reducible refine (posternlaw15_first.calls k  true _ A4.out).mono ?_); rintro e w11 ⟨rfl, hb⟩; refine ⟨_, rfl, ?_⟩; have n0_ := Aside0.mk (blk_below (g := gb275) (o := .cells #[.int .u64 a2_0, .int .u64 a2_1, .int .u64 a2_2, .int .u64 a2_3] 63 (0, 0)) (by (with_reducible repeat (first | apply bN | apply bD | apply bA)); exact BK275.out) hb); have n1_ := Aside0.mk (below_step (by repeat (first | (with_reducible first | exact HB.out | apply lA | apply lN | apply lD | refine lS ?_ ‹_›) | exact HB.out)) hb); clear BK275; clear HB; have BK275 := n0_; have HB := n1_; clear n0_ n1_; (try clear hb); (try clear hb2); (try clear hk); (try clear hi)) | ((with_reducible refine gate_dst (N := 14) rfl ?_); refine Kd.R_lit (Kd.int .i64) _ 3 ?hg (N := 14) ?hd (xs := ([32, 48, 160, 176, 16] : List Int)) (inner := [.int .i64 32, .int .i64 48, .int .i64 160, .int .i64 176, .int .i64 16]) (ok := fun _ => True) (okp := fun _ => True) ?hr ?hp (fun _ hk => hk) trivial (Below.refl _ _) (Nat.le_refl _) (by simp) ?_; (case hd => rfl); (case hg => rfl); (case hr => first | (go_simp; done) | (go_simp; rfl)); (case hp => exact (Reps.one (show Kd.M (Kd.int .i64) _ _ _ 32 [.int .i64 32] from rfl) (Reps.one (show Kd.M (Kd.int .i64) _ _ _ 48 [.int .i64 48] from rfl) (Reps.one (show Kd.M (Kd.int .i64) _ _ _ 160 [.int .i64 160] from rfl) (Reps.one (show Kd.M (Kd.int .i64) _ _ _ 176 [.int .i64 176] from rfl) (Reps.one (show Kd.M (Kd.int .i64) _ _ _ 16 [.int .i64 16] from rfl) (Reps.none _ _))))))); intro v278 w12 ho13 hb hg_ hnew_; clear hg_ hnew_; (first | rw [← Ny277.out] at ho13 | (simp only [Int.reduceToNat] at ho13; rw [← Ny277.out] at ho13)); have n0_ := Aside0.mk (Kd.R_lower ho13 (below_size (by repeat (first | (with_reducible first | exact HB.out | apply lA | apply lN | apply lD | refine lS ?_ ‹_›) | exact HB.out)))); have n1_ := Aside0.mk (blk_below (g := gb275) (o := .cells #[.int .u64 a2_0, .int .u64 a2_1, .int .u64 a2_2, .int .u64 a2_3] 63 (0, 0)) (by (with_reducible repeat (first | apply bN | apply bD | apply bA)); exact BK275.out) hb); have n2_ := Aside0.mk (below_step (by repeat (first | (with_reducible first | exact HB.out | apply lA | apply lN | apply lD | refine lS ?_ ‹_›) | exact HB.out)) hb); clear BK275; clear HB; have HO279 := n0_; have BK275 := n1_; have HB := n2_; clear n0_ n1_ n2_; clear hb ho13; obtain ⟨Ao14, co14, eo14⟩ := Kd.R_slice HO279.out; subst eo14; have p280 : 0 ≤ ((ji6) : Int) := of_decide_eq_true (by first | (with_reducible assumption) | assumption); have q280 : (ji6) < (y277.length : Int) := of_decide_eq_true (by first | (with_reducible assumption) | assumption); obtain ⟨ad280, e280, hx280_0⟩ := Kd.at_int (Kd.R_reads' HO279.out).2.2 (ji6) p280 q280; cases e280; replace p280 := eq_true p280; replace q280 := eq_true q280))
    (try simp only [Act.put, List.setIfInBounds_toArray, List.set_cons_zero, List.set_cons_succ])
    go_cut [1] (fun v1 wc => ∃ (kq : Nat) (x1_8 : Bool), v1 = .bool x1_8 ∧ Aside0 (posternlaw15_SpanEnds.j0 kq x1_8 (rd y277 (ji6)) a2_0 a2_1 a2_2 a2_3 = some r) ∧ Aside0 (kq ≤ k) ∧ Aside0 (wc.heap[gb275]? = some (.cells #[.int .u64 a2_0, .int .u64 a2_1, .int .u64 a2_2, .int .u64 a2_3] 63 (0, 0))) ∧ Aside0 (Below w.heap.size w wc))
    case first =>
     have H := HC9.out
     clear HC9
     by_cases c15 : (rd y277 (ji6)) = 16
     ·
      rw [if_pos c15] at H
      have c15b0 : ((rd y277 (ji6)) == 16) = true := beq_iff_eq.mpr c15; have c15b1 : ((rd y277 (ji6)) != 16) = false := bne_eq_false_iff_eq.mpr c15; clear c15
      (first | rw [c15b0] | (simp only [i64_w, i32_w]; rw [c15b0]) | skip)
      have H' := Aside0.mk H
      clear H
      go_wp2
      go_meet
      case rel => exact ⟨_, (true), (by first | rfl | (simp; done) | (simp [*]; done)), H', ⟨by first | omega | exact Nat.le_refl _⟩, ⟨by (with_reducible repeat (first | apply bN | apply bD | apply bA)); exact BK275.out⟩, ⟨by repeat (first | (with_reducible first | exact HB.out | apply lA | apply lN | apply lD | refine lS ?_ ‹_›) | exact HB.out)⟩⟩
     ·
      rw [if_neg c15] at H
      have c15b0 : ((rd y277 (ji6)) == 16) = false := beq_eq_false_iff_ne.mpr c15; have c15b1 : ((rd y277 (ji6)) != 16) = true := bne_iff_ne.mpr c15
      (first | rw [c15b0] | (simp only [i64_w, i32_w]; rw [c15b0]) | skip)
      have H' := Aside0.mk H
      clear H
      go_wp2
      go_meet
      case rel => exact ⟨_, (a1), (by first | rfl | (simp; done) | (simp [*]; done)), H', ⟨by first | omega | exact Nat.le_refl _⟩, ⟨by (with_reducible repeat (first | apply bN | apply bD | apply bA)); exact BK275.out⟩, ⟨by repeat (first | (with_reducible first | exact HB.out | apply lA | apply lN | apply lD | refine lS ?_ ‹_›) | exact HB.out)⟩⟩
    case rest =>
     clear HC9
     try clear c1
     try clear c2
     try clear p2
     try clear q2
     try clear hx2
     try clear c5
     try clear p6
     try clear c7
     try clear c7b0
     try clear c8
     try clear c8b0
     try clear c10
     try clear c15
     try clear c15b0
     try clear c15b1
     try clear hx280_0
     try clear p280
     try clear q280
     obtain ⟨kq, x1_8, rfl, HA, HJ8, BK275, HB⟩ := hcut
     cases kq with
     | zero => exact absurd HA.out (by simp [posternlaw15_SpanEnds.j0])
     | succ kj8 =>
      have H := HA.out
      clear HA
      simp only [posternlaw15_SpanEnds.j0] at H
      replace H := Option.bind_eq_some_iff.mp H; obtain ⟨⟨t281, t282, t283, t284, t285, t286⟩, A160, H⟩ := H
      replace H : (if t286 = 0 then (if t285 = true then ((posternlaw15_pair.f kj8 (rd y277 (ji6)) x1_8 t281 a2_2 a2_3 true).bind fun t295 => (if t295 = true then ((posternlaw15_pair.f kj8 (rd y277 (ji6)) x1_8 t282 a2_2 a2_3 true).bind fun t296 => (if t296 = true then ((posternlaw15_pair.f kj8 (rd y277 (ji6)) x1_8 t283 a2_0 a2_1 false).bind fun t297 => (if t297 = true then ((posternlaw15_pair.f kj8 (rd y277 (ji6)) x1_8 t284 a2_0 a2_1 false).bind fun t298 => (some t298)) else (some false))) else (some false))) else (some false))) else ((posternref15_Lo.f a2_0 a2_1).bind fun t289 => ((posternlaw15_pair.f kj8 (rd y277 (ji6)) x1_8 t289 a2_2 a2_3 true).bind fun t290 => (if t290 = true then (some false) else ((posternref15_Hi.f a2_0 a2_1).bind fun t291 => ((posternlaw15_pair.f kj8 (rd y277 (ji6)) x1_8 t291 a2_2 a2_3 true).bind fun t292 => (if t292 = true then (some false) else (if (rd y277 (ji6)) = 16 then ((posternref15_Lo.f a2_2 a2_3).bind fun t293 => ((posternlaw15_pair.f kj8 (rd y277 (ji6)) x1_8 t293 a2_0 a2_1 false).bind fun t294 => (some (!t294)))) else (some (!false)))))))))) else (some false)) = some r := H
      have A16 := Aside0.mk A160; clear A160
      by_cases c17 : t286 = 0
      ·
       rw [if_pos c17] at H
       have c17b0 : (t286 == 0) = true := beq_iff_eq.mpr c17; have c17b1 : (t286 != 0) = false := bne_eq_false_iff_eq.mpr c17; clear c17
       by_cases c18 : t285 = true
       ·
        subst c18
        have H1 : ((posternlaw15_pair.f kj8 (rd y277 (ji6)) x1_8 t281 a2_2 a2_3 true).bind fun t295 => (if t295 = true then ((posternlaw15_pair.f kj8 (rd y277 (ji6)) x1_8 t282 a2_2 a2_3 true).bind fun t296 => (if t296 = true then ((posternlaw15_pair.f kj8 (rd y277 (ji6)) x1_8 t283 a2_0 a2_1 false).bind fun t297 => (if t297 = true then ((posternlaw15_pair.f kj8 (rd y277 (ji6)) x1_8 t284 a2_0 a2_1 false).bind fun t298 => (some t298)) else (some false))) else (some false))) else (some false))) = some r := by rw [if_pos rfl] at H; exact H
        clear H; have H := H1; clear H1; replace H := Option.bind_eq_some_iff.mp H; obtain ⟨t295, A190, H⟩ := H
        replace H : (if t295 = true then ((posternlaw15_pair.f kj8 (rd y277 (ji6)) x1_8 t282 a2_2 a2_3 true).bind fun t296 => (if t296 = true then ((posternlaw15_pair.f kj8 (rd y277 (ji6)) x1_8 t283 a2_0 a2_1 false).bind fun t297 => (if t297 = true then ((posternlaw15_pair.f kj8 (rd y277 (ji6)) x1_8 t284 a2_0 a2_1 false).bind fun t298 => (some t298)) else (some false))) else (some false))) else (some false)) = some r := H
        have A19 := Aside0.mk A190; clear A190
        by_cases c20 : t295 = true
        ·
         subst c20
         have H1 : ((posternlaw15_pair.f kj8 (rd y277 (ji6)) x1_8 t282 a2_2 a2_3 true).bind fun t296 => (if t296 = true then ((posternlaw15_pair.f kj8 (rd y277 (ji6)) x1_8 t283 a2_0 a2_1 false).bind fun t297 => (if t297 = true then ((posternlaw15_pair.f kj8 (rd y277 (ji6)) x1_8 t284 a2_0 a2_1 false).bind fun t298 => (some t298)) else (some false))) else (some false))) = some r := by rw [if_pos rfl] at H; exact H
         clear H; have H := H1; clear H1; replace H := Option.bind_eq_some_iff.mp H; obtain ⟨t296, A210, H⟩ := H
         replace H : (if t296 = true then ((posternlaw15_pair.f kj8 (rd y277 (ji6)) x1_8 t283 a2_0 a2_1 false).bind fun t297 => (if t297 = true then ((posternlaw15_pair.f kj8 (rd y277 (ji6)) x1_8 t284 a2_0 a2_1 false).bind fun t298 => (some t298)) else (some false))) else (some false)) = some r := H
         have A21 := Aside0.mk A210; clear A210
         by_cases c22 : t296 = true
         ·
          subst c22
          have H1 : ((posternlaw15_pair.f kj8 (rd y277 (ji6)) x1_8 t283 a2_0 a2_1 false).bind fun t297 => (if t297 = true then ((posternlaw15_pair.f kj8 (rd y277 (ji6)) x1_8 t284 a2_0 a2_1 false).bind fun t298 => (some t298)) else (some false))) = some r := by rw [if_pos rfl] at H; exact H
          clear H; have H := H1; clear H1; replace H := Option.bind_eq_some_iff.mp H; obtain ⟨t297, A230, H⟩ := H
          replace H : (if t297 = true then ((posternlaw15_pair.f kj8 (rd y277 (ji6)) x1_8 t284 a2_0 a2_1 false).bind fun t298 => (some t298)) else (some false)) = some r := H
          have A23 := Aside0.mk A230; clear A230
          by_cases c24 : t297 = true
          ·
           subst c24
           have H1 : ((posternlaw15_pair.f kj8 (rd y277 (ji6)) x1_8 t284 a2_0 a2_1 false).bind fun t298 => (some t298)) = some r := by rw [if_pos rfl] at H; exact H
           clear H; have H := H1; clear H1; replace H := Option.bind_eq_some_iff.mp H; obtain ⟨t298, A250, H⟩ := H
           replace H : (some t298) = some r := H
           have A25 := Aside0.mk A250; clear A250
           obtain rfl := Option.some.inj H
           have hcz26_0 : wc.cell? ⟨gb275, 0, none⟩ = some (.int .u64 a2_0) := (blk_cell BK275.out 0).trans rfl; have hcz26_1 : wc.cell? ⟨gb275, 1, none⟩ = some (.int .u64 a2_1) := (blk_cell BK275.out 1).trans rfl; have hcz26_2 : wc.cell? ⟨gb275, 2, none⟩ = some (.int .u64 a2_2) := (blk_cell BK275.out 2).trans rfl; have hcz26_3 : wc.cell? ⟨gb275, 3, none⟩ = some (.int .u64 a2_3) := (blk_cell BK275.out 3).trans rfl; have hfz26_0 := blk_frozen BK275.out 0; have hfz26_1 := blk_frozen BK275.out 1; have hfz26_2 := blk_frozen BK275.out 2; have hfz26_3 := blk_frozen BK275.out 3
           go_wp2_with (first | ((with_reducible refine gate_callee (f := 36) rfl ?_); refine goesL_ (some 30) rfl rfl Try.func36 (by kernel_rfl) rfl #[.int .i64 (rd y277 (ji6)), .bool true, .bool x1_8, .agg #[.int .u64 a2_0, .int .u64 a2_1], .agg #[.int .u64 a2_2, .int .u64 a2_3]] rfl (by (try simp only [List.map_toArray, List.map_cons, List.map_nil]); first | done | (simp only [hji6]; rfl) | rfl | (simp only [List.length_drop, List.length_take]; rfl)) ?_; (with_reducible refine (span_Narrow.calls kj8 (rd y277 (ji6)) true x1_8 a2_0 a2_1 a2_2 a2_3 t281 t282 t283 t284 true t286 _ A16.out).mono ?_); rintro e w27 ⟨rfl, hb⟩; refine ⟨_, rfl, ?_⟩; have n0_ := Aside0.mk (blk_below (g := gb275) (o := .cells #[.int .u64 a2_0, .int .u64 a2_1, .int .u64 a2_2, .int .u64 a2_3] 63 (0, 0)) (by (with_reducible repeat (first | apply bN | apply bD | apply bA)); exact BK275.out) hb); have n1_ := Aside0.mk (below_step (by repeat (first | (with_reducible first | exact HB.out | apply lA | apply lN | apply lD | refine lS ?_ ‹_›) | exact HB.out)) hb); clear BK275; clear HB; have BK275 := n0_; have HB := n1_; clear n0_ n1_; (try clear hb); (try clear hb2); (try clear hk); (try clear hi)) | ((with_reducible refine gate_dst (N := 8) rfl ?_); refine box_event ?hg (N := 8) ?hd (cs := #[.int .u64 0, .int .u64 0]) (t := 58) ?hr ?_; (case hd => rfl); (case hg => rfl); (case hr => first | (go_simp; done) | (go_simp; rfl)); intro gb287 hg w28 hbox hb; have n0_ := Aside0.mk (blk_below (g := gb275) (o := .cells #[.int .u64 a2_0, .int .u64 a2_1, .int .u64 a2_2, .int .u64 a2_3] 63 (0, 0)) (by (with_reducible repeat (first | apply bN | apply bD | apply bA)); exact BK275.out) hb); have n1_ := Aside0.mk (below_step (by repeat (first | (with_reducible first | exact HB.out | apply lA | apply lN | apply lD | refine lS ?_ ‹_›) | exact HB.out)) hb); have n2_ := Aside0.mk (hbox); have n3_ := Aside0.mk ((by rw [hg]; exact (below_size (by repeat (first | (with_reducible first | exact HB.out | apply lA | apply lN | apply lD | refine lS ?_ ‹_›) | exact HB.out))) : w.heap.size ≤ gb287)); have n4_ := n3_; have n5_ := Aside0.mk ((by rw [hg]; exact Nat.ne_of_lt (blk_lt (g := gb275) (o := .cells #[.int .u64 a2_0, .int .u64 a2_1, .int .u64 a2_2, .int .u64 a2_3] 63 (0, 0)) (by (with_reducible repeat (first | apply bN | apply bD | apply bA)); exact BK275.out)) : gb275 ≠ gb287)); have n6_ := sy n5_; clear BK275; clear HB; have BK275 := n0_; have HB := n1_; have BK287 := n2_; have GW287 := n3_; have GE287 := n4_; have NB275_287 := n5_; have NB287_275 := n6_; clear n0_ n1_ n2_ n3_ n4_ n5_ n6_; clear hb hbox hg) | ((with_reducible refine gate_dst (N := 9) rfl ?_); refine box_event ?hg (N := 9) ?hd (cs := #[.int .u64 0, .int .u64 0]) (t := 58) ?hr ?_; (case hd => rfl); (case hg => rfl); (case hr => first | (go_simp; done) | (go_simp; rfl)); intro gb288 hg w29 hbox hb; have n0_ := Aside0.mk (blk_below (g := gb275) (o := .cells #[.int .u64 a2_0, .int .u64 a2_1, .int .u64 a2_2, .int .u64 a2_3] 63 (0, 0)) (by (with_reducible repeat (first | apply bN | apply bD | apply bA)); exact BK275.out) hb); have n1_ := Aside0.mk (blk_below (g := gb287) (o := .cells #[.int .u64 0, .int .u64 0] 58 (0, 0)) (by (with_reducible repeat (first | apply bN | apply bD | apply bA)); exact BK287.out) hb); have n2_ := Aside0.mk (below_step (by repeat (first | (with_reducible first | exact HB.out | apply lA | apply lN | apply lD | refine lS ?_ ‹_›) | exact HB.out)) hb); have n3_ := Aside0.mk (hbox); have n4_ := Aside0.mk ((by rw [hg]; exact (below_size (by repeat (first | (with_reducible first | exact HB.out | apply lA | apply lN | apply lD | refine lS ?_ ‹_›) | exact HB.out))) : w.heap.size ≤ gb288)); have n5_ := n4_; have n6_ := Aside0.mk ((by rw [hg]; exact Nat.ne_of_lt (blk_lt (g := gb275) (o := .cells #[.int .u64 a2_0, .int .u64 a2_1, .int .u64 a2_2, .int .u64 a2_3] 63 (0, 0)) (by (with_reducible repeat (first | apply bN | apply bD | apply bA)); exact BK275.out)) : gb275 ≠ gb288)); have n7_ := sy n6_; have n8_ := Aside0.mk ((by rw [hg]; exact Nat.ne_of_lt (blk_lt (g := gb287) (o := .cells #[.int .u64 0, .int .u64 0] 58 (0, 0)) (by (with_reducible repeat (first | apply bN | apply bD | apply bA)); exact BK287.out)) : gb287 ≠ gb288)); have n9_ := sy n8_; clear BK275; clear BK287; clear HB; have BK275 := n0_; have BK287 := n1_; have HB := n2_; have BK288 := n3_; have GW288 := n4_; have GE288 := n5_; have NB275_288 := n6_; have NB288_275 := n7_; have NB287_288 := n8_; have NB288_287 := n9_; clear n0_ n1_ n2_ n3_ n4_ n5_ n6_ n7_ n8_ n9_; clear hb hbox hg; have hnb30 := NB287_275.out; have hnc30 := NB275_287.out; have hnb31 := NB287_288.out; have hnc31 := NB288_287.out; have hcz32_0 : w29.cell? ⟨gb287, 0, none⟩ = some (.int .u64 0) := (blk_cell BK287.out 0).trans rfl; have hcz32_1 : w29.cell? ⟨gb287, 1, none⟩ = some (.int .u64 0) := (blk_cell BK287.out 1).trans rfl; have hfz32_0 := blk_frozen BK287.out 0; have hfz32_1 := blk_frozen BK287.out 1; have hnb33 := NB288_275.out; have hnc33 := NB275_288.out; have hcz34_0 : w29.cell? ⟨gb288, 0, none⟩ = some (.int .u64 0) := (blk_cell BK288.out 0).trans rfl; have hcz34_1 : w29.cell? ⟨gb288, 1, none⟩ = some (.int .u64 0) := (blk_cell BK288.out 1).trans rfl; have hfz34_0 := blk_frozen BK288.out 0; have hfz34_1 := blk_frozen BK288.out 1; have hcz35_0 : w29.cell? ⟨gb275, 0, none⟩ = some (.int .u64 a2_0) := (blk_cell BK275.out 0).trans rfl; have hcz35_1 : w29.cell? ⟨gb275, 1, none⟩ = some (.int .u64 a2_1) := (blk_cell BK275.out 1).trans rfl; have hcz35_2 : w29.cell? ⟨gb275, 2, none⟩ = some (.int .u64 a2_2) := (blk_cell BK275.out 2).trans rfl; have hcz35_3 : w29.cell? ⟨gb275, 3, none⟩ = some (.int .u64 a2_3) := (blk_cell BK275.out 3).trans rfl; have hfz35_0 := blk_frozen BK275.out 0; have hfz35_1 := blk_frozen BK275.out 1; have hfz35_2 := blk_frozen BK275.out 2; have hfz35_3 := blk_frozen BK275.out 3) | ((with_reducible refine gate_callee (f := 38) rfl ?_); refine goesL_ (some 80) rfl rfl Try.func38 (by kernel_rfl) rfl #[.int .i64 (rd y277 (ji6)), .bool x1_8, .int .u64 t281, .agg #[.int .u64 a2_2, .int .u64 a2_3], .bool true] rfl (by (try simp only [List.map_toArray, List.map_cons, List.map_nil]); first | done | (simp only [hji6]; rfl) | rfl | (simp only [List.length_drop, List.length_take]; rfl)) ?_; (with_reducible refine (posternlaw15_pair.calls kj8 (rd y277 (ji6)) x1_8 t281 a2_2 a2_3 true true _ A19.out).mono ?_); rintro e w36 ⟨rfl, hb⟩; refine ⟨_, rfl, ?_⟩; have n0_ := Aside0.mk (blk_below (g := gb275) (o := .cells #[.int .u64 a2_0, .int .u64 a2_1, .int .u64 a2_2, .int .u64 a2_3] 63 (0, 0)) (by (with_reducible repeat (first | apply bN | apply bD | apply bA)); refine blk_far ?_ NB275_288.out _; (with_reducible repeat (first | apply bN | apply bD | apply bA)); refine blk_far ?_ NB275_288.out _; (with_reducible repeat (first | apply bN | apply bD | apply bA)); refine blk_far ?_ NB275_287.out _; (with_reducible repeat (first | apply bN | apply bD | apply bA)); refine blk_far ?_ NB275_287.out _; (with_reducible repeat (first | apply bN | apply bD | apply bA)); exact BK275.out) hb); have n1_ := Aside0.mk (blk_below (g := gb287) (o := .cells #[.int .u64 t281, .int .u64 t282] 58 (0, 0)) (by (with_reducible repeat (first | apply bN | apply bD | apply bA)); refine blk_far ?_ NB287_288.out _; (with_reducible repeat (first | apply bN | apply bD | apply bA)); refine blk_far ?_ NB287_288.out _; (with_reducible repeat (first | apply bN | apply bD | apply bA)); refine blk_put (cs := #[.int .u64 t281, .int .u64 0]) ?_ 1 _ rfl; (with_reducible repeat (first | apply bN | apply bD | apply bA)); refine blk_put (cs := #[.int .u64 0, .int .u64 0]) ?_ 0 _ rfl; (with_reducible repeat (first | apply bN | apply bD | apply bA)); exact BK287.out) hb); have n2_ := Aside0.mk (blk_below (g := gb288) (o := .cells #[.int .u64 t283, .int .u64 t284] 58 (0, 0)) (by (with_reducible repeat (first | apply bN | apply bD | apply bA)); refine blk_put (cs := #[.int .u64 t283, .int .u64 0]) ?_ 1 _ rfl; (with_reducible repeat (first | apply bN | apply bD | apply bA)); refine blk_put (cs := #[.int .u64 0, .int .u64 0]) ?_ 0 _ rfl; (with_reducible repeat (first | apply bN | apply bD | apply bA)); refine blk_far ?_ NB288_287.out _; (with_reducible repeat (first | apply bN | apply bD | apply bA)); refine blk_far ?_ NB288_287.out _; (with_reducible repeat (first | apply bN | apply bD | apply bA)); exact BK288.out) hb); have n3_ := Aside0.mk (below_step (by repeat (first | (with_reducible first | exact HB.out | apply lA | apply lN | apply lD | refine lS ?_ ‹_›) | exact HB.out)) hb); clear BK275; clear BK287; clear BK288; clear HB; have BK275 := n0_; have BK287 := n1_; have BK288 := n2_; have HB := n3_; clear n0_ n1_ n2_ n3_; (try clear hb); (try clear hb2); (try clear hk); (try clear hi); have hcz37_0 : w36.cell? ⟨gb287, 0, none⟩ = some (.int .u64 t281) := (blk_cell BK287.out 0).trans rfl; have hcz37_1 : w36.cell? ⟨gb287, 1, none⟩ = some (.int .u64 t282) := (blk_cell BK287.out 1).trans rfl; have hfz37_0 := blk_frozen BK287.out 0; have hfz37_1 := blk_frozen BK287.out 1; have hcz38_0 : w36.cell? ⟨gb275, 0, none⟩ = some (.int .u64 a2_0) := (blk_cell BK275.out 0).trans rfl; have hcz38_1 : w36.cell? ⟨gb275, 1, none⟩ = some (.int .u64 a2_1) := (blk_cell BK275.out 1).trans rfl; have hcz38_2 : w36.cell? ⟨gb275, 2, none⟩ = some (.int .u64 a2_2) := (blk_cell BK275.out 2).trans rfl; have hcz38_3 : w36.cell? ⟨gb275, 3, none⟩ = some (.int .u64 a2_3) := (blk_cell BK275.out 3).trans rfl; have hfz38_0 := blk_frozen BK275.out 0; have hfz38_1 := blk_frozen BK275.out 1; have hfz38_2 := blk_frozen BK275.out 2; have hfz38_3 := blk_frozen BK275.out 3) | (go_at_call 38; (with_reducible refine (posternlaw15_pair.calls kj8 (rd y277 (ji6)) x1_8 t282 a2_2 a2_3 true true _ A21.out).mono ?_); rintro e w39 ⟨rfl, hb⟩; have n0_ := Aside0.mk (blk_below (g := gb275) (o := .cells #[.int .u64 a2_0, .int .u64 a2_1, .int .u64 a2_2, .int .u64 a2_3] 63 (0, 0)) (by (with_reducible repeat (first | apply bN | apply bD | apply bA)); exact BK275.out) hb); have n1_ := Aside0.mk (blk_below (g := gb287) (o := .cells #[.int .u64 t281, .int .u64 t282] 58 (0, 0)) (by (with_reducible repeat (first | apply bN | apply bD | apply bA)); exact BK287.out) hb); have n2_ := Aside0.mk (blk_below (g := gb288) (o := .cells #[.int .u64 t283, .int .u64 t284] 58 (0, 0)) (by (with_reducible repeat (first | apply bN | apply bD | apply bA)); exact BK288.out) hb); have n3_ := Aside0.mk (below_step (by repeat (first | (with_reducible first | exact HB.out | apply lA | apply lN | apply lD | refine lS ?_ ‹_›) | exact HB.out)) hb); clear BK275; clear BK287; clear BK288; clear HB; have BK275 := n0_; have BK287 := n1_; have BK288 := n2_; have HB := n3_; clear n0_ n1_ n2_ n3_; (try clear hb); (try clear hb2); (try clear hk); (try clear hi); have hcz40_0 : w39.cell? ⟨gb288, 0, none⟩ = some (.int .u64 t283) := (blk_cell BK288.out 0).trans rfl; have hcz40_1 : w39.cell? ⟨gb288, 1, none⟩ = some (.int .u64 t284) := (blk_cell BK288.out 1).trans rfl; have hfz40_0 := blk_frozen BK288.out 0; have hfz40_1 := blk_frozen BK288.out 1; have hcz41_0 : w39.cell? ⟨gb275, 0, none⟩ = some (.int .u64 a2_0) := (blk_cell BK275.out 0).trans rfl; have hcz41_1 : w39.cell? ⟨gb275, 1, none⟩ = some (.int .u64 a2_1) := (blk_cell BK275.out 1).trans rfl; have hcz41_2 : w39.cell? ⟨gb275, 2, none⟩ = some (.int .u64 a2_2) := (blk_cell BK275.out 2).trans rfl; have hcz41_3 : w39.cell? ⟨gb275, 3, none⟩ = some (.int .u64 a2_3) := (blk_cell BK275.out 3).trans rfl; have hfz41_0 := blk_frozen BK275.out 0; have hfz41_1 := blk_frozen BK275.out 1; have hfz41_2 := blk_frozen BK275.out 2; have hfz41_3 := blk_frozen BK275.out 3) | (go_at_call 38; (with_reducible refine (posternlaw15_pair.calls kj8 (rd y277 (ji6)) x1_8 t283 a2_0 a2_1 false true _ A23.out).mono ?_); rintro e w42 ⟨rfl, hb⟩; have n0_ := Aside0.mk (blk_below (g := gb275) (o := .cells #[.int .u64 a2_0, .int .u64 a2_1, .int .u64 a2_2, .int .u64 a2_3] 63 (0, 0)) (by (with_reducible repeat (first | apply bN | apply bD | apply bA)); exact BK275.out) hb); have n1_ := Aside0.mk (blk_below (g := gb287) (o := .cells #[.int .u64 t281, .int .u64 t282] 58 (0, 0)) (by (with_reducible repeat (first | apply bN | apply bD | apply bA)); exact BK287.out) hb); have n2_ := Aside0.mk (blk_below (g := gb288) (o := .cells #[.int .u64 t283, .int .u64 t284] 58 (0, 0)) (by (with_reducible repeat (first | apply bN | apply bD | apply bA)); exact BK288.out) hb); have n3_ := Aside0.mk (below_step (by repeat (first | (with_reducible first | exact HB.out | apply lA | apply lN | apply lD | refine lS ?_ ‹_›) | exact HB.out)) hb); clear BK275; clear BK287; clear BK288; clear HB; have BK275 := n0_; have BK287 := n1_; have BK288 := n2_; have HB := n3_; clear n0_ n1_ n2_ n3_; (try clear hb); (try clear hb2); (try clear hk); (try clear hi); have hcz43_0 : w42.cell? ⟨gb288, 0, none⟩ = some (.int .u64 t283) := (blk_cell BK288.out 0).trans rfl; have hcz43_1 : w42.cell? ⟨gb288, 1, none⟩ = some (.int .u64 t284) := (blk_cell BK288.out 1).trans rfl; have hfz43_0 := blk_frozen BK288.out 0; have hfz43_1 := blk_frozen BK288.out 1; have hcz44_0 : w42.cell? ⟨gb275, 0, none⟩ = some (.int .u64 a2_0) := (blk_cell BK275.out 0).trans rfl; have hcz44_1 : w42.cell? ⟨gb275, 1, none⟩ = some (.int .u64 a2_1) := (blk_cell BK275.out 1).trans rfl; have hcz44_2 : w42.cell? ⟨gb275, 2, none⟩ = some (.int .u64 a2_2) := (blk_cell BK275.out 2).trans rfl; have hcz44_3 : w42.cell? ⟨gb275, 3, none⟩ = some (.int .u64 a2_3) := (blk_cell BK275.out 3).trans rfl; have hfz44_0 := blk_frozen BK275.out 0; have hfz44_1 := blk_frozen BK275.out 1; have hfz44_2 := blk_frozen BK275.out 2; have hfz44_3 := blk_frozen BK275.out 3) | (go_at_call 38; (with_reducible refine (posternlaw15_pair.calls kj8 (rd y277 (ji6)) x1_8 t284 a2_0 a2_1 false t298 _ A25.out).mono ?_); rintro e w45 ⟨rfl, hb⟩; have n0_ := Aside0.mk (blk_below (g := gb275) (o := .cells #[.int .u64 a2_0, .int .u64 a2_1, .int .u64 a2_2, .int .u64 a2_3] 63 (0, 0)) (by (with_reducible repeat (first | apply bN | apply bD | apply bA)); exact BK275.out) hb); have n1_ := Aside0.mk (blk_below (g := gb287) (o := .cells #[.int .u64 t281, .int .u64 t282] 58 (0, 0)) (by (with_reducible repeat (first | apply bN | apply bD | apply bA)); exact BK287.out) hb); have n2_ := Aside0.mk (blk_below (g := gb288) (o := .cells #[.int .u64 t283, .int .u64 t284] 58 (0, 0)) (by (with_reducible repeat (first | apply bN | apply bD | apply bA)); exact BK288.out) hb); have n3_ := Aside0.mk (below_step (by repeat (first | (with_reducible first | exact HB.out | apply lA | apply lN | apply lD | refine lS ?_ ‹_›) | exact HB.out)) hb); clear BK275; clear BK287; clear BK288; clear HB; have BK275 := n0_; have BK287 := n1_; have BK288 := n2_; have HB := n3_; clear n0_ n1_ n2_ n3_; (try clear hb); (try clear hb2); (try clear hk); (try clear hi)))
           go_ret
           exact ⟨by first | rfl | (simp [errW_none, errW_some] <;> rfl) | (simp only [← hji6]; first | rfl | (simp [errW_none, errW_some] <;> rfl)) | (simp [*, errW_none, errW_some] <;> rfl), by repeat (first | (with_reducible first | exact HB.out | apply lA | apply lN | apply lD | refine lS ?_ ‹_›) | exact HB.out)⟩
          ·
           replace c24 := Bool.eq_false_iff.mpr c24
           subst c24
           have H1 : (some false) = some r := by rw [if_neg (show ¬ (false = true) by decide)] at H; exact H
           clear H; have H := H1; clear H1
           exact absurd (H.trans (congrArg some hr_.out)) (by simp)
         ·
          replace c22 := Bool.eq_false_iff.mpr c22
          subst c22
          have H1 : (some false) = some r := by rw [if_neg (show ¬ (false = true) by decide)] at H; exact H
          clear H; have H := H1; clear H1
          exact absurd (H.trans (congrArg some hr_.out)) (by simp)
        ·
         replace c20 := Bool.eq_false_iff.mpr c20
         subst c20
         have H1 : (some false) = some r := by rw [if_neg (show ¬ (false = true) by decide)] at H; exact H
         clear H; have H := H1; clear H1
         exact absurd (H.trans (congrArg some hr_.out)) (by simp)
       ·
        replace c18 := Bool.eq_false_iff.mpr c18
        subst c18
        have H1 : ((posternref15_Lo.f a2_0 a2_1).bind fun t289 => ((posternlaw15_pair.f kj8 (rd y277 (ji6)) x1_8 t289 a2_2 a2_3 true).bind fun t290 => (if t290 = true then (some false) else ((posternref15_Hi.f a2_0 a2_1).bind fun t291 => ((posternlaw15_pair.f kj8 (rd y277 (ji6)) x1_8 t291 a2_2 a2_3 true).bind fun t292 => (if t292 = true then (some false) else (if (rd y277 (ji6)) = 16 then ((posternref15_Lo.f a2_2 a2_3).bind fun t293 => ((posternlaw15_pair.f kj8 (rd y277 (ji6)) x1_8 t293 a2_0 a2_1 false).bind fun t294 => (some (!t294)))) else (some (!false))))))))) = some r := by rw [if_neg (show ¬ (false = true) by decide)] at H; exact H
        clear H; have H := H1; clear H1; replace H := Option.bind_eq_some_iff.mp H; obtain ⟨t289, A460, H⟩ := H
        replace H : ((posternlaw15_pair.f kj8 (rd y277 (ji6)) x1_8 t289 a2_2 a2_3 true).bind fun t290 => (if t290 = true then (some false) else ((posternref15_Hi.f a2_0 a2_1).bind fun t291 => ((posternlaw15_pair.f kj8 (rd y277 (ji6)) x1_8 t291 a2_2 a2_3 true).bind fun t292 => (if t292 = true then (some false) else (if (rd y277 (ji6)) = 16 then ((posternref15_Lo.f a2_2 a2_3).bind fun t293 => ((posternlaw15_pair.f kj8 (rd y277 (ji6)) x1_8 t293 a2_0 a2_1 false).bind fun t294 => (some (!t294)))) else (some (!false)))))))) = some r := H
        have A46 := Aside0.mk A460; clear A460; replace H := Option.bind_eq_some_iff.mp H; obtain ⟨t290, A470, H⟩ := H
        replace H : (if t290 = true then (some false) else ((posternref15_Hi.f a2_0 a2_1).bind fun t291 => ((posternlaw15_pair.f kj8 (rd y277 (ji6)) x1_8 t291 a2_2 a2_3 true).bind fun t292 => (if t292 = true then (some false) else (if (rd y277 (ji6)) = 16 then ((posternref15_Lo.f a2_2 a2_3).bind fun t293 => ((posternlaw15_pair.f kj8 (rd y277 (ji6)) x1_8 t293 a2_0 a2_1 false).bind fun t294 => (some (!t294)))) else (some (!false))))))) = some r := H
        have A47 := Aside0.mk A470; clear A470
        by_cases c48 : t290 = true
        ·
         subst c48
         have H1 : (some false) = some r := by rw [if_pos rfl] at H; exact H
         clear H; have H := H1; clear H1
         exact absurd (H.trans (congrArg some hr_.out)) (by simp)
        ·
         replace c48 := Bool.eq_false_iff.mpr c48
         subst c48
         have H1 : ((posternref15_Hi.f a2_0 a2_1).bind fun t291 => ((posternlaw15_pair.f kj8 (rd y277 (ji6)) x1_8 t291 a2_2 a2_3 true).bind fun t292 => (if t292 = true then (some false) else (if (rd y277 (ji6)) = 16 then ((posternref15_Lo.f a2_2 a2_3).bind fun t293 => ((posternlaw15_pair.f kj8 (rd y277 (ji6)) x1_8 t293 a2_0 a2_1 false).bind fun t294 => (some (!t294)))) else (some (!false)))))) = some r := by rw [if_neg (show ¬ (false = true) by decide)] at H; exact H
         clear H; have H := H1; clear H1; replace H := Option.bind_eq_some_iff.mp H; obtain ⟨t291, A490, H⟩ := H
         replace H : ((posternlaw15_pair.f kj8 (rd y277 (ji6)) x1_8 t291 a2_2 a2_3 true).bind fun t292 => (if t292 = true then (some false) else (if (rd y277 (ji6)) = 16 then ((posternref15_Lo.f a2_2 a2_3).bind fun t293 => ((posternlaw15_pair.f kj8 (rd y277 (ji6)) x1_8 t293 a2_0 a2_1 false).bind fun t294 => (some (!t294)))) else (some (!false))))) = some r := H
         have A49 := Aside0.mk A490; clear A490; replace H := Option.bind_eq_some_iff.mp H; obtain ⟨t292, A500, H⟩ := H
         replace H : (if t292 = true then (some false) else (if (rd y277 (ji6)) = 16 then ((posternref15_Lo.f a2_2 a2_3).bind fun t293 => ((posternlaw15_pair.f kj8 (rd y277 (ji6)) x1_8 t293 a2_0 a2_1 false).bind fun t294 => (some (!t294)))) else (some (!false)))) = some r := H
         have A50 := Aside0.mk A500; clear A500
         by_cases c51 : t292 = true
         ·
          subst c51
          have H1 : (some false) = some r := by rw [if_pos rfl] at H; exact H
          clear H; have H := H1; clear H1
          exact absurd (H.trans (congrArg some hr_.out)) (by simp)
         ·
          replace c51 := Bool.eq_false_iff.mpr c51
          subst c51
          have H1 : (if (rd y277 (ji6)) = 16 then ((posternref15_Lo.f a2_2 a2_3).bind fun t293 => ((posternlaw15_pair.f kj8 (rd y277 (ji6)) x1_8 t293 a2_0 a2_1 false).bind fun t294 => (some (!t294)))) else (some (!false))) = some r := by rw [if_neg (show ¬ (false = true) by decide)] at H; exact H
          clear H; have H := H1; clear H1
          by_cases c52 : (rd y277 (ji6)) = 16
          ·
           rw [if_pos c52] at H
           have c52b0 : ((rd y277 (ji6)) == 16) = true := beq_iff_eq.mpr c52; have c52b1 : ((rd y277 (ji6)) != 16) = false := bne_eq_false_iff_eq.mpr c52; clear c52; replace H := Option.bind_eq_some_iff.mp H; obtain ⟨t293, A530, H⟩ := H
           replace H : ((posternlaw15_pair.f kj8 (rd y277 (ji6)) x1_8 t293 a2_0 a2_1 false).bind fun t294 => (some (!t294))) = some r := H
           have A53 := Aside0.mk A530; clear A530; replace H := Option.bind_eq_some_iff.mp H; obtain ⟨t294, A540, H⟩ := H
           replace H : (some (!t294)) = some r := H
           have A54 := Aside0.mk A540; clear A540
           obtain rfl := Option.some.inj H
           have hcz55_0 : wc.cell? ⟨gb275, 0, none⟩ = some (.int .u64 a2_0) := (blk_cell BK275.out 0).trans rfl; have hcz55_1 : wc.cell? ⟨gb275, 1, none⟩ = some (.int .u64 a2_1) := (blk_cell BK275.out 1).trans rfl; have hcz55_2 : wc.cell? ⟨gb275, 2, none⟩ = some (.int .u64 a2_2) := (blk_cell BK275.out 2).trans rfl; have hcz55_3 : wc.cell? ⟨gb275, 3, none⟩ = some (.int .u64 a2_3) := (blk_cell BK275.out 3).trans rfl; have hfz55_0 := blk_frozen BK275.out 0; have hfz55_1 := blk_frozen BK275.out 1; have hfz55_2 := blk_frozen BK275.out 2; have hfz55_3 := blk_frozen BK275.out 3
           try go_wp2_with (first | ((with_reducible refine gate_callee (f := 36) rfl ?_); refine goesL_ (some 30) rfl rfl Try.func36 (by kernel_rfl) rfl #[.int .i64 (rd y277 (ji6)), .bool true, .bool x1_8, .agg #[.int .u64 a2_0, .int .u64 a2_1], .agg #[.int .u64 a2_2, .int .u64 a2_3]] rfl (by (try simp only [List.map_toArray, List.map_cons, List.map_nil]); first | done | (simp only [hji6]; rfl) | rfl | (simp only [List.length_drop, List.length_take]; rfl)) ?_; (with_reducible refine (span_Narrow.calls kj8 (rd y277 (ji6)) true x1_8 a2_0 a2_1 a2_2 a2_3 t281 t282 t283 t284 false t286 _ A16.out).mono ?_); rintro e w56 ⟨rfl, hb⟩; refine ⟨_, rfl, ?_⟩; have n0_ := Aside0.mk (blk_below (g := gb275) (o := .cells #[.int .u64 a2_0, .int .u64 a2_1, .int .u64 a2_2, .int .u64 a2_3] 63 (0, 0)) (by (with_reducible repeat (first | apply bN | apply bD | apply bA)); exact BK275.out) hb); have n1_ := Aside0.mk (below_step (by repeat (first | (with_reducible first | exact HB.out | apply lA | apply lN | apply lD | refine lS ?_ ‹_›) | exact HB.out)) hb); clear BK275; clear HB; have BK275 := n0_; have HB := n1_; clear n0_ n1_; (try clear hb); (try clear hb2); (try clear hk); (try clear hi)) | ((with_reducible refine gate_dst (N := 8) rfl ?_); refine box_event ?hg (N := 8) ?hd (cs := #[.int .u64 0, .int .u64 0]) (t := 58) ?hr ?_; (case hd => rfl); (case hg => rfl); (case hr => first | (go_simp; done) | (go_simp; rfl)); intro gb287 hg w57 hbox hb; have n0_ := Aside0.mk (blk_below (g := gb275) (o := .cells #[.int .u64 a2_0, .int .u64 a2_1, .int .u64 a2_2, .int .u64 a2_3] 63 (0, 0)) (by (with_reducible repeat (first | apply bN | apply bD | apply bA)); exact BK275.out) hb); have n1_ := Aside0.mk (below_step (by repeat (first | (with_reducible first | exact HB.out | apply lA | apply lN | apply lD | refine lS ?_ ‹_›) | exact HB.out)) hb); have n2_ := Aside0.mk (hbox); have n3_ := Aside0.mk ((by rw [hg]; exact (below_size (by repeat (first | (with_reducible first | exact HB.out | apply lA | apply lN | apply lD | refine lS ?_ ‹_›) | exact HB.out))) : w.heap.size ≤ gb287)); have n4_ := n3_; have n5_ := Aside0.mk ((by rw [hg]; exact Nat.ne_of_lt (blk_lt (g := gb275) (o := .cells #[.int .u64 a2_0, .int .u64 a2_1, .int .u64 a2_2, .int .u64 a2_3] 63 (0, 0)) (by (with_reducible repeat (first | apply bN | apply bD | apply bA)); exact BK275.out)) : gb275 ≠ gb287)); have n6_ := sy n5_; clear BK275; clear HB; have BK275 := n0_; have HB := n1_; have BK287 := n2_; have GW287 := n3_; have GE287 := n4_; have NB275_287 := n5_; have NB287_275 := n6_; clear n0_ n1_ n2_ n3_ n4_ n5_ n6_; clear hb hbox hg) | ((with_reducible refine gate_dst (N := 9) rfl ?_); refine box_event ?hg (N := 9) ?hd (cs := #[.int .u64 0, .int .u64 0]) (t := 58) ?hr ?_; (case hd => rfl); (case hg => rfl); (case hr => first | (go_simp; done) | (go_simp; rfl)); intro gb288 hg w58 hbox hb; have n0_ := Aside0.mk (blk_below (g := gb275) (o := .cells #[.int .u64 a2_0, .int .u64 a2_1, .int .u64 a2_2, .int .u64 a2_3] 63 (0, 0)) (by (with_reducible repeat (first | apply bN | apply bD | apply bA)); exact BK275.out) hb); have n1_ := Aside0.mk (blk_below (g := gb287) (o := .cells #[.int .u64 0, .int .u64 0] 58 (0, 0)) (by (with_reducible repeat (first | apply bN | apply bD | apply bA)); exact BK287.out) hb); have n2_ := Aside0.mk (below_step (by repeat (first | (with_reducible first | exact HB.out | apply lA | apply lN | apply lD | refine lS ?_ ‹_›) | exact HB.out)) hb); have n3_ := Aside0.mk (hbox); have n4_ := Aside0.mk ((by rw [hg]; exact (below_size (by repeat (first | (with_reducible first | exact HB.out | apply lA | apply lN | apply lD | refine lS ?_ ‹_›) | exact HB.out))) : w.heap.size ≤ gb288)); have n5_ := n4_; have n6_ := Aside0.mk ((by rw [hg]; exact Nat.ne_of_lt (blk_lt (g := gb275) (o := .cells #[.int .u64 a2_0, .int .u64 a2_1, .int .u64 a2_2, .int .u64 a2_3] 63 (0, 0)) (by (with_reducible repeat (first | apply bN | apply bD | apply bA)); exact BK275.out)) : gb275 ≠ gb288)); have n7_ := sy n6_; have n8_ := Aside0.mk ((by rw [hg]; exact Nat.ne_of_lt (blk_lt (g := gb287) (o := .cells #[.int .u64 0, .int .u64 0] 58 (0, 0)) (by (with_reducible repeat (first | apply bN | apply bD | apply bA)); exact BK287.out)) : gb287 ≠ gb288)); have n9_ := sy n8_; clear BK275; clear BK287; clear HB; have BK275 := n0_; have BK287 := n1_; have HB := n2_; have BK288 := n3_; have GW288 := n4_; have GE288 := n5_; have NB275_288 := n6_; have NB288_275 := n7_; have NB287_288 := n8_; have NB288_287 := n9_; clear n0_ n1_ n2_ n3_ n4_ n5_ n6_ n7_ n8_ n9_; clear hb hbox hg; have hnb59 := NB287_275.out; have hnc59 := NB275_287.out; have hnb60 := NB287_288.out; have hnc60 := NB288_287.out; have hcz61_0 : w58.cell? ⟨gb287, 0, none⟩ = some (.int .u64 0) := (blk_cell BK287.out 0).trans rfl; have hcz61_1 : w58.cell? ⟨gb287, 1, none⟩ = some (.int .u64 0) := (blk_cell BK287.out 1).trans rfl; have hfz61_0 := blk_frozen BK287.out 0; have hfz61_1 := blk_frozen BK287.out 1; have hnb62 := NB288_275.out; have hnc62 := NB275_288.out; have hcz63_0 : w58.cell? ⟨gb288, 0, none⟩ = some (.int .u64 0) := (blk_cell BK288.out 0).trans rfl; have hcz63_1 : w58.cell? ⟨gb288, 1, none⟩ = some (.int .u64 0) := (blk_cell BK288.out 1).trans rfl; have hfz63_0 := blk_frozen BK288.out 0; have hfz63_1 := blk_frozen BK288.out 1))
           have n0_ : Aside0 (((((w58.setCell ⟨gb287, 0, none⟩ (.int .u64 t281)).setCell ⟨gb287, 1, none⟩ (.int .u64 t282)).setCell ⟨gb288, 0, none⟩ (.int .u64 t283)).setCell ⟨gb288, 1, none⟩ (.int .u64 t284)).heap[gb275]? = some (.cells #[.int .u64 a2_0, .int .u64 a2_1, .int .u64 a2_2, .int .u64 a2_3] 63 (0, 0))) := ⟨by (with_reducible repeat (first | apply bN | apply bD | apply bA)); refine blk_far ?_ NB275_288.out _; (with_reducible repeat (first | apply bN | apply bD | apply bA)); refine blk_far ?_ NB275_288.out _; (with_reducible repeat (first | apply bN | apply bD | apply bA)); refine blk_far ?_ NB275_287.out _; (with_reducible repeat (first | apply bN | apply bD | apply bA)); refine blk_far ?_ NB275_287.out _; (with_reducible repeat (first | apply bN | apply bD | apply bA)); exact BK275.out⟩
           have n1_ : Aside0 (((((w58.setCell ⟨gb287, 0, none⟩ (.int .u64 t281)).setCell ⟨gb287, 1, none⟩ (.int .u64 t282)).setCell ⟨gb288, 0, none⟩ (.int .u64 t283)).setCell ⟨gb288, 1, none⟩ (.int .u64 t284)).heap[gb287]? = some (.cells #[.int .u64 t281, .int .u64 t282] 58 (0, 0))) := ⟨by (with_reducible repeat (first | apply bN | apply bD | apply bA)); refine blk_far ?_ NB287_288.out _; (with_reducible repeat (first | apply bN | apply bD | apply bA)); refine blk_far ?_ NB287_288.out _; (with_reducible repeat (first | apply bN | apply bD | apply bA)); refine blk_put (cs := #[.int .u64 t281, .int .u64 0]) ?_ 1 _ rfl; (with_reducible repeat (first | apply bN | apply bD | apply bA)); refine blk_put (cs := #[.int .u64 0, .int .u64 0]) ?_ 0 _ rfl; (with_reducible repeat (first | apply bN | apply bD | apply bA)); exact BK287.out⟩
           have n2_ : Aside0 (((((w58.setCell ⟨gb287, 0, none⟩ (.int .u64 t281)).setCell ⟨gb287, 1, none⟩ (.int .u64 t282)).setCell ⟨gb288, 0, none⟩ (.int .u64 t283)).setCell ⟨gb288, 1, none⟩ (.int .u64 t284)).heap[gb288]? = some (.cells #[.int .u64 t283, .int .u64 t284] 58 (0, 0))) := ⟨by (with_reducible repeat (first | apply bN | apply bD | apply bA)); refine blk_put (cs := #[.int .u64 t283, .int .u64 0]) ?_ 1 _ rfl; (with_reducible repeat (first | apply bN | apply bD | apply bA)); refine blk_put (cs := #[.int .u64 0, .int .u64 0]) ?_ 0 _ rfl; (with_reducible repeat (first | apply bN | apply bD | apply bA)); refine blk_far ?_ NB288_287.out _; (with_reducible repeat (first | apply bN | apply bD | apply bA)); refine blk_far ?_ NB288_287.out _; (with_reducible repeat (first | apply bN | apply bD | apply bA)); exact BK288.out⟩
           have n3_ : Aside0 (Below w.heap.size w ((((w58.setCell ⟨gb287, 0, none⟩ (.int .u64 t281)).setCell ⟨gb287, 1, none⟩ (.int .u64 t282)).setCell ⟨gb288, 0, none⟩ (.int .u64 t283)).setCell ⟨gb288, 1, none⟩ (.int .u64 t284))) := ⟨by repeat (first | (with_reducible first | exact HB.out | apply lA | apply lN | apply lD | refine lS ?_ ‹_›) | exact HB.out)⟩
           (try clear BK275)
           (try clear BK287)
           (try clear BK288)
           (try clear HB)
           generalize ((((w58.setCell ⟨gb287, 0, none⟩ (.int .u64 t281)).setCell ⟨gb287, 1, none⟩ (.int .u64 t282)).setCell ⟨gb288, 0, none⟩ (.int .u64 t283)).setCell ⟨gb288, 1, none⟩ (.int .u64 t284)) = w64 at n0_ n1_ n2_ n3_ ⊢
           have BK275 := n0_; have BK287 := n1_; have BK288 := n2_; have HB := n3_; clear n0_ n1_ n2_ n3_; have n0_ := Aside0.mk (blk_drew BK275.out); have n1_ := Aside0.mk (blk_drew BK287.out); have n2_ := Aside0.mk (blk_drew BK288.out)
           have n3_ := Aside0.mk (below_drew1 HB.out)
           clear BK275; clear BK287; clear BK288; clear HB; have BK275 := n0_; have BK287 := n1_; have BK288 := n2_; have HB := n3_; clear n0_ n1_ n2_ n3_
           refine start_ (n := 36) (S := fun w' => w'.cell? ⟨gb275, 0, none⟩ = some (.int .u64 a2_0) ∧ w'.cell? ⟨gb275, 1, none⟩ = some (.int .u64 a2_1) ∧ w'.cell? ⟨gb275, 2, none⟩ = some (.int .u64 a2_2) ∧ w'.cell? ⟨gb275, 3, none⟩ = some (.int .u64 a2_3)) (ds := []) #[false, false, false, false, false, false, false, false, false, false, false, false, false, false, false, false, false, false, false, false, false, false, false, false, false, false, false, false, false, false, false, false, false, false, false, false] (by kernel_rfl) rfl rfl ⟨(blk_cell BK275.out 0).trans rfl, (blk_cell BK275.out 1).trans rfl, (blk_cell BK275.out 2).trans rfl, (blk_cell BK275.out 3).trans rfl⟩ (fun hHeld => ?_); refine with_tabW posternlaw15_SpanEnds.tab10 posternlaw15_SpanEnds.bits10 (fun HT_ HW_ => ?_)
           generalize w64.drew = w65 at BK275 BK287 BK288 HB hHeld ⊢
           refine pure_ (i := 0) (N := some 39) (v := ?_) (a' := ?_) #[true, false, false, false, false, false, false, false, false, false, false, false, false, false, false, false, false, false, false, false, false, false, false, false, false, false, false, false, false, false, false, false, false, false, false, false] rfl rfl (any_of HT_.out (by kernel_rfl)) (fun _ _ _ h => h) (Or.inl ⟨by rfl, ?_⟩) ?_ ?_
           rotate_left
           ·
            intro w'
            go_simp; with_reducible rfl
           rotate_left
           ·
            simp only [Act.put, List.setIfInBounds_toArray, List.set_cons_zero, List.set_cons_succ, i64_w, i32_w]
            rfl
           refine pure_ (i := 1) (N := some 40) (v := ?_) (a' := ?_) #[true, true, false, false, false, false, false, false, false, false, false, false, false, false, false, false, false, false, false, false, false, false, false, false, false, false, false, false, false, false, false, false, false, false, false, false] rfl rfl (any_of HT_.out (by kernel_rfl)) (fun _ _ _ h => h) (Or.inl ⟨by rfl, ?_⟩) ?_ ?_
           rotate_left
           ·
            intro w'
            go_simp; with_reducible rfl
           rotate_left
           ·
            simp only [Act.put, List.setIfInBounds_toArray, List.set_cons_zero, List.set_cons_succ, i64_w, i32_w]
            rfl
           refine pure_ (i := 2) (N := some 41) (v := ?_) (a' := ?_) #[true, true, true, false, false, false, false, false, false, false, false, false, false, false, false, false, false, false, false, false, false, false, false, false, false, false, false, false, false, false, false, false, false, false, false, false] rfl rfl (any_of HT_.out (by kernel_rfl)) (fun _ _ _ h => h) (Or.inl ⟨by rfl, ?_⟩) ?_ ?_
           rotate_left
           ·
            intro w'
            go_simp; with_reducible rfl
           rotate_left
           ·
            simp only [Act.put, List.setIfInBounds_toArray, List.set_cons_zero, List.set_cons_succ, i64_w, i32_w]
            rfl
           refine pure_ (i := 5) (N := some 44) (v := ?_) (a' := ?_) #[true, true, true, false, false, true, false, false, false, false, false, false, false, false, false, false, false, false, false, false, false, false, false, false, false, false, false, false, false, false, false, false, false, false, false, false] rfl rfl (any_of HT_.out (by kernel_rfl)) (fun _ _ _ h => h) (Or.inl ⟨by rfl, ?_⟩) ?_ ?_
           rotate_left
           ·
            intro w'
            go_simp; with_reducible rfl
           rotate_left
           ·
            simp only [Act.put, List.setIfInBounds_toArray, List.set_cons_zero, List.set_cons_succ, i64_w, i32_w]
            rfl
           refine take_ (i := 3) (N := some 42) (v := ?_) (a' := ?_) #[true, true, true, true, false, true, false, false, false, false, false, false, false, false, false, false, false, false, false, false, false, false, false, false, false, false, false, false, false, false, false, false, false, false, false, false] rfl rfl (take_ofW HT_.out HW_.out (by kernel_rfl)) (fun _ _ _ h => h) (Or.inl ⟨by rfl, ?_⟩) hHeld ?_ ?_
           rotate_left
           ·
            rintro w' ⟨s0, s1, s2, s3⟩
            go_simp; with_reducible rfl
           rotate_left
           ·
            simp only [Act.put, List.setIfInBounds_toArray, List.set_cons_zero, List.set_cons_succ, i64_w, i32_w]
            rfl
           refine take_ (i := 6) (N := some 45) (v := ?_) (a' := ?_) #[true, true, true, true, false, true, true, false, false, false, false, false, false, false, false, false, false, false, false, false, false, false, false, false, false, false, false, false, false, false, false, false, false, false, false, false] rfl rfl (take_ofW HT_.out HW_.out (by kernel_rfl)) (fun _ _ _ h => h) (Or.inl ⟨by rfl, ?_⟩) hHeld ?_ ?_
           rotate_left
           ·
            rintro w' ⟨s0, s1, s2, s3⟩
            go_simp; with_reducible rfl
           rotate_left
           ·
            simp only [Act.put, List.setIfInBounds_toArray, List.set_cons_zero, List.set_cons_succ, i64_w, i32_w]
            rfl
           refine one_ (i := 4) (N := some 43) #[true, true, true, true, true, true, true, false, false, false, false, false, false, false, false, false, false, false, false, false, false, false, false, false, false, false, false, false, false, false, false, false, false, false, false, false] rfl rfl (one_of HT_.out (by kernel_rfl)) (by decide) (fun K hK => ?_)
           refine goes_ Try.func30 (by kernel_rfl) rfl #[.agg #[.int .u64 a2_0, .int .u64 a2_1]] (by rfl) rfl rfl (by (try simp only [List.map_toArray, List.map_cons, List.map_nil]); first | done | rfl | (simp only [List.length_drop, List.length_take]; rfl)) ?_
           with_reducible refine (posternref15_Lo.calls a2_0 a2_1 t289 _ A46.out).mono ?_
           rintro e w66 ⟨rfl, hb⟩
           refine ⟨_, rfl, ?_⟩
           have n0_ := Aside0.mk (blk_below (g := gb275) (o := .cells #[.int .u64 a2_0, .int .u64 a2_1, .int .u64 a2_2, .int .u64 a2_3] 63 (0, 0)) (by (with_reducible repeat (first | apply bN | apply bD | apply bA)); exact BK275.out) hb)
           have n1_ := Aside0.mk (blk_below (g := gb287) (o := .cells #[.int .u64 t281, .int .u64 t282] 58 (0, 0)) (by (with_reducible repeat (first | apply bN | apply bD | apply bA)); exact BK287.out) hb)
           have n2_ := Aside0.mk (blk_below (g := gb288) (o := .cells #[.int .u64 t283, .int .u64 t284] 58 (0, 0)) (by (with_reducible repeat (first | apply bN | apply bD | apply bA)); exact BK288.out) hb)
           have n3_ := Aside0.mk (below_step (by repeat (first | (with_reducible first | exact HB.out | apply lA | apply lN | apply lD | refine lS ?_ ‹_›) | exact HB.out)) hb)
           clear BK275; clear BK287; clear BK288; clear HB; have BK275 := n0_; have BK287 := n1_; have BK288 := n2_; have HB := n3_; clear n0_ n1_ n2_ n3_
           (try clear hb)
           (try clear hb2)
           (try clear hk)
           (try clear hi)
           refine hK.out _ _ ⟨(blk_cell BK275.out 0).trans rfl, (blk_cell BK275.out 1).trans rfl, (blk_cell BK275.out 2).trans rfl, (blk_cell BK275.out 3).trans rfl⟩ (fun hHeld => ?_)
           clear hK K
           refine norm_ (a' := ?_) ?_ ?_
           rotate_left
           ·
            show Act.put _ (some 43) _ = _
            simp only [Act.put, List.setIfInBounds_toArray, List.set_cons_zero, List.set_cons_succ, i64_w, i32_w]
            rfl
           refine one_ (i := 7) (N := some 46) #[true, true, true, true, true, true, true, true, false, false, false, false, false, false, false, false, false, false, false, false, false, false, false, false, false, false, false, false, false, false, false, false, false, false, false, false] rfl rfl (one_of HT_.out (by kernel_rfl)) (by decide) (fun K hK => ?_)
           refine goes_ Try.func38 (by kernel_rfl) rfl #[.int .i64 (rd y277 (ji6)), .bool x1_8, .int .u64 t289, .agg #[.int .u64 a2_2, .int .u64 a2_3], .bool true] (by rfl) rfl rfl (by (try simp only [List.map_toArray, List.map_cons, List.map_nil]); first | done | (simp only [hji6]; rfl) | rfl | (simp only [List.length_drop, List.length_take]; rfl)) ?_
           with_reducible refine (posternlaw15_pair.calls kj8 (rd y277 (ji6)) x1_8 t289 a2_2 a2_3 true false _ A47.out).mono ?_
           rintro e w67 ⟨rfl, hb⟩
           refine ⟨_, rfl, ?_⟩
           have n0_ := Aside0.mk (blk_below (g := gb275) (o := .cells #[.int .u64 a2_0, .int .u64 a2_1, .int .u64 a2_2, .int .u64 a2_3] 63 (0, 0)) (by (with_reducible repeat (first | apply bN | apply bD | apply bA)); exact BK275.out) hb)
           have n1_ := Aside0.mk (blk_below (g := gb287) (o := .cells #[.int .u64 t281, .int .u64 t282] 58 (0, 0)) (by (with_reducible repeat (first | apply bN | apply bD | apply bA)); exact BK287.out) hb)
           have n2_ := Aside0.mk (blk_below (g := gb288) (o := .cells #[.int .u64 t283, .int .u64 t284] 58 (0, 0)) (by (with_reducible repeat (first | apply bN | apply bD | apply bA)); exact BK288.out) hb)
           have n3_ := Aside0.mk (below_step (by repeat (first | (with_reducible first | exact HB.out | apply lA | apply lN | apply lD | refine lS ?_ ‹_›) | exact HB.out)) hb)
           clear BK275; clear BK287; clear BK288; clear HB; have BK275 := n0_; have BK287 := n1_; have BK288 := n2_; have HB := n3_; clear n0_ n1_ n2_ n3_
           (try clear hb)
           (try clear hb2)
           (try clear hk)
           (try clear hi)
           refine hK.out _ _ ⟨(blk_cell BK275.out 0).trans rfl, (blk_cell BK275.out 1).trans rfl, (blk_cell BK275.out 2).trans rfl, (blk_cell BK275.out 3).trans rfl⟩ (fun hHeld => ?_)
           clear hK K
           refine norm_ (a' := ?_) ?_ ?_
           rotate_left
           ·
            show Act.put _ (some 46) _ = _
            simp only [Act.put, List.setIfInBounds_toArray, List.set_cons_zero, List.set_cons_succ, i64_w, i32_w]
            rfl
           refine pure_ (i := 8) (N := some 47) (v := ?_) (a' := ?_) #[true, true, true, true, true, true, true, true, true, false, false, false, false, false, false, false, false, false, false, false, false, false, false, false, false, false, false, false, false, false, false, false, false, false, false, false] rfl rfl (any_of HT_.out (by kernel_rfl)) (fun _ _ _ h => h) (Or.inl ⟨by rfl, ?_⟩) ?_ ?_
           rotate_left
           ·
            intro w'
            go_simp; with_reducible rfl
           rotate_left
           ·
            simp only [Act.put, List.setIfInBounds_toArray, List.set_cons_zero, List.set_cons_succ, i64_w, i32_w]
            rfl
           refine pure_ (i := 9) (N := some 48) (v := ?_) (a' := ?_) #[true, true, true, true, true, true, true, true, true, true, false, false, false, false, false, false, false, false, false, false, false, false, false, false, false, false, false, false, false, false, false, false, false, false, false, false] rfl rfl (any_of HT_.out (by kernel_rfl)) (fun _ _ _ h => h) (Or.inl ⟨by rfl, ?_⟩) ?_ ?_
           rotate_left
           ·
            intro w'
            go_simp; with_reducible rfl
           rotate_left
           ·
            simp only [Act.put, List.setIfInBounds_toArray, List.set_cons_zero, List.set_cons_succ, i64_w, i32_w]
            rfl
           refine pure_ (i := 10) (N := some 49) (v := ?_) (a' := ?_) #[true, true, true, true, true, true, true, true, true, true, true, false, false, false, false, false, false, false, false, false, false, false, false, false, false, false, false, false, false, false, false, false, false, false, false, false] rfl rfl (any_of HT_.out (by kernel_rfl)) (fun _ _ _ h => h) (Or.inl ⟨by rfl, ?_⟩) ?_ ?_
           rotate_left
           ·
            intro w'
            go_simp; with_reducible rfl
           rotate_left
           ·
            simp only [Act.put, List.setIfInBounds_toArray, List.set_cons_zero, List.set_cons_succ, i64_w, i32_w]
            rfl
           refine pure_ (i := 11) (N := some 50) (v := ?_) (a' := ?_) #[true, true, true, true, true, true, true, true, true, true, true, true, false, false, false, false, false, false, false, false, false, false, false, false, false, false, false, false, false, false, false, false, false, false, false, false] rfl rfl (any_of HT_.out (by kernel_rfl)) (fun _ _ _ h => h) (Or.inl ⟨by rfl, ?_⟩) ?_ ?_
           rotate_left
           ·
            intro w'
            go_simp; with_reducible rfl
           rotate_left
           ·
            simp only [Act.put, List.setIfInBounds_toArray, List.set_cons_zero, List.set_cons_succ, i64_w, i32_w]
            rfl
           refine pure_ (i := 12) (N := some 51) (v := ?_) (a' := ?_) #[true, true, true, true, true, true, true, true, true, true, true, true, true, false, false, false, false, false, false, false, false, false, false, false, false, false, false, false, false, false, false, false, false, false, false, false] rfl rfl (any_of HT_.out (by kernel_rfl)) (fun _ _ _ h => h) (Or.inl ⟨by rfl, ?_⟩) ?_ ?_
           rotate_left
           ·
            intro w'
            go_simp; with_reducible rfl
           rotate_left
           ·
            simp only [Act.put, List.setIfInBounds_toArray, List.set_cons_zero, List.set_cons_succ, i64_w, i32_w]
            rfl
           refine pure_ (i := 15) (N := some 54) (v := ?_) (a' := ?_) #[true, true, true, true, true, true, true, true, true, true, true, true, true, false, false, true, false, false, false, false, false, false, false, false, false, false, false, false, false, false, false, false, false, false, false, false] rfl rfl (any_of HT_.out (by kernel_rfl)) (fun _ _ _ h => h) (Or.inl ⟨by rfl, ?_⟩) ?_ ?_
           rotate_left
           ·
            intro w'
            go_simp; with_reducible rfl
           rotate_left
           ·
            simp only [Act.put, List.setIfInBounds_toArray, List.set_cons_zero, List.set_cons_succ, i64_w, i32_w]
            rfl
           refine take_ (i := 13) (N := some 52) (v := ?_) (a' := ?_) #[true, true, true, true, true, true, true, true, true, true, true, true, true, true, false, true, false, false, false, false, false, false, false, false, false, false, false, false, false, false, false, false, false, false, false, false] rfl rfl (take_ofW HT_.out HW_.out (by kernel_rfl)) (fun _ _ _ h => h) (Or.inl ⟨by rfl, ?_⟩) hHeld ?_ ?_
           rotate_left
           ·
            rintro w' ⟨s0, s1, s2, s3⟩
            go_simp; with_reducible rfl
           rotate_left
           ·
            simp only [Act.put, List.setIfInBounds_toArray, List.set_cons_zero, List.set_cons_succ, i64_w, i32_w]
            rfl
           refine take_ (i := 16) (N := some 55) (v := ?_) (a' := ?_) #[true, true, true, true, true, true, true, true, true, true, true, true, true, true, false, true, true, false, false, false, false, false, false, false, false, false, false, false, false, false, false, false, false, false, false, false] rfl rfl (take_ofW HT_.out HW_.out (by kernel_rfl)) (fun _ _ _ h => h) (Or.inl ⟨by rfl, ?_⟩) hHeld ?_ ?_
           rotate_left
           ·
            rintro w' ⟨s0, s1, s2, s3⟩
            go_simp; with_reducible rfl
           rotate_left
           ·
            simp only [Act.put, List.setIfInBounds_toArray, List.set_cons_zero, List.set_cons_succ, i64_w, i32_w]
            rfl
           refine one_ (i := 14) (N := some 53) #[true, true, true, true, true, true, true, true, true, true, true, true, true, true, true, true, true, false, false, false, false, false, false, false, false, false, false, false, false, false, false, false, false, false, false, false] rfl rfl (one_of HT_.out (by kernel_rfl)) (by decide) (fun K hK => ?_)
           refine goes_ Try.func31 (by kernel_rfl) rfl #[.agg #[.int .u64 a2_0, .int .u64 a2_1]] (by rfl) rfl rfl (by (try simp only [List.map_toArray, List.map_cons, List.map_nil]); first | done | rfl | (simp only [List.length_drop, List.length_take]; rfl)) ?_
           with_reducible refine (posternref15_Hi.calls a2_0 a2_1 t291 _ A49.out).mono ?_
           rintro e w68 ⟨rfl, hb⟩
           refine ⟨_, rfl, ?_⟩
           have n0_ := Aside0.mk (blk_below (g := gb275) (o := .cells #[.int .u64 a2_0, .int .u64 a2_1, .int .u64 a2_2, .int .u64 a2_3] 63 (0, 0)) (by (with_reducible repeat (first | apply bN | apply bD | apply bA)); exact BK275.out) hb)
           have n1_ := Aside0.mk (blk_below (g := gb287) (o := .cells #[.int .u64 t281, .int .u64 t282] 58 (0, 0)) (by (with_reducible repeat (first | apply bN | apply bD | apply bA)); exact BK287.out) hb)
           have n2_ := Aside0.mk (blk_below (g := gb288) (o := .cells #[.int .u64 t283, .int .u64 t284] 58 (0, 0)) (by (with_reducible repeat (first | apply bN | apply bD | apply bA)); exact BK288.out) hb)
           have n3_ := Aside0.mk (below_step (by repeat (first | (with_reducible first | exact HB.out | apply lA | apply lN | apply lD | refine lS ?_ ‹_›) | exact HB.out)) hb)
           clear BK275; clear BK287; clear BK288; clear HB; have BK275 := n0_; have BK287 := n1_; have BK288 := n2_; have HB := n3_; clear n0_ n1_ n2_ n3_
           (try clear hb)
           (try clear hb2)
           (try clear hk)
           (try clear hi)
           refine hK.out _ _ ⟨(blk_cell BK275.out 0).trans rfl, (blk_cell BK275.out 1).trans rfl, (blk_cell BK275.out 2).trans rfl, (blk_cell BK275.out 3).trans rfl⟩ (fun hHeld => ?_)
           clear hK K
           refine norm_ (a' := ?_) ?_ ?_
           rotate_left
           ·
            show Act.put _ (some 53) _ = _
            simp only [Act.put, List.setIfInBounds_toArray, List.set_cons_zero, List.set_cons_succ, i64_w, i32_w]
            rfl
           refine one_ (i := 17) (N := some 56) #[true, true, true, true, true, true, true, true, true, true, true, true, true, true, true, true, true, true, false, false, false, false, false, false, false, false, false, false, false, false, false, false, false, false, false, false] rfl rfl (one_of HT_.out (by kernel_rfl)) (by decide) (fun K hK => ?_)
           refine goes_ Try.func38 (by kernel_rfl) rfl #[.int .i64 (rd y277 (ji6)), .bool x1_8, .int .u64 t291, .agg #[.int .u64 a2_2, .int .u64 a2_3], .bool true] (by rfl) rfl rfl (by (try simp only [List.map_toArray, List.map_cons, List.map_nil]); first | done | (simp only [hji6]; rfl) | rfl | (simp only [List.length_drop, List.length_take]; rfl)) ?_
           with_reducible refine (posternlaw15_pair.calls kj8 (rd y277 (ji6)) x1_8 t291 a2_2 a2_3 true false _ A50.out).mono ?_
           rintro e w69 ⟨rfl, hb⟩
           refine ⟨_, rfl, ?_⟩
           have n0_ := Aside0.mk (blk_below (g := gb275) (o := .cells #[.int .u64 a2_0, .int .u64 a2_1, .int .u64 a2_2, .int .u64 a2_3] 63 (0, 0)) (by (with_reducible repeat (first | apply bN | apply bD | apply bA)); exact BK275.out) hb)
           have n1_ := Aside0.mk (blk_below (g := gb287) (o := .cells #[.int .u64 t281, .int .u64 t282] 58 (0, 0)) (by (with_reducible repeat (first | apply bN | apply bD | apply bA)); exact BK287.out) hb)
           have n2_ := Aside0.mk (blk_below (g := gb288) (o := .cells #[.int .u64 t283, .int .u64 t284] 58 (0, 0)) (by (with_reducible repeat (first | apply bN | apply bD | apply bA)); exact BK288.out) hb)
           have n3_ := Aside0.mk (below_step (by repeat (first | (with_reducible first | exact HB.out | apply lA | apply lN | apply lD | refine lS ?_ ‹_›) | exact HB.out)) hb)
           clear BK275; clear BK287; clear BK288; clear HB; have BK275 := n0_; have BK287 := n1_; have BK288 := n2_; have HB := n3_; clear n0_ n1_ n2_ n3_
           (try clear hb)
           (try clear hb2)
           (try clear hk)
           (try clear hi)
           refine hK.out _ _ ⟨(blk_cell BK275.out 0).trans rfl, (blk_cell BK275.out 1).trans rfl, (blk_cell BK275.out 2).trans rfl, (blk_cell BK275.out 3).trans rfl⟩ (fun hHeld => ?_)
           clear hK K
           refine norm_ (a' := ?_) ?_ ?_
           rotate_left
           ·
            show Act.put _ (some 56) _ = _
            simp only [Act.put, List.setIfInBounds_toArray, List.set_cons_zero, List.set_cons_succ, i64_w, i32_w]
            rfl
           refine pure_ (i := 18) (N := some 57) (v := ?_) (a' := ?_) #[true, true, true, true, true, true, true, true, true, true, true, true, true, true, true, true, true, true, true, false, false, false, false, false, false, false, false, false, false, false, false, false, false, false, false, false] rfl rfl (any_of HT_.out (by kernel_rfl)) (fun _ _ _ h => h) (Or.inl ⟨by rfl, ?_⟩) ?_ ?_
           rotate_left
           ·
            intro w'
            go_simp; with_reducible rfl
           rotate_left
           ·
            simp only [Act.put, List.setIfInBounds_toArray, List.set_cons_zero, List.set_cons_succ, i64_w, i32_w]
            rfl
           refine pure_ (i := 19) (N := some 58) (v := ?_) (a' := ?_) #[true, true, true, true, true, true, true, true, true, true, true, true, true, true, true, true, true, true, true, true, false, false, false, false, false, false, false, false, false, false, false, false, false, false, false, false] rfl rfl (any_of HT_.out (by kernel_rfl)) (fun _ _ _ h => h) (Or.inl ⟨by rfl, ?_⟩) ?_ ?_
           rotate_left
           ·
            intro w'
            go_simp; with_reducible rfl
           rotate_left
           ·
            simp only [Act.put, List.setIfInBounds_toArray, List.set_cons_zero, List.set_cons_succ, i64_w, i32_w]
            rfl
           refine pure_ (i := 20) (N := some 59) (v := ?_) (a' := ?_) #[true, true, true, true, true, true, true, true, true, true, true, true, true, true, true, true, true, true, true, true, true, false, false, false, false, false, false, false, false, false, false, false, false, false, false, false] rfl rfl (any_of HT_.out (by kernel_rfl)) (fun _ _ _ h => h) (Or.inl ⟨by rfl, ?_⟩) ?_ ?_
           rotate_left
           ·
            intro w'
            go_simp; with_reducible rfl
           rotate_left
           ·
            simp only [Act.put, List.setIfInBounds_toArray, List.set_cons_zero, List.set_cons_succ, i64_w, i32_w]
            rfl
           refine pure_ (i := 21) (N := some 60) (v := ?_) (a' := ?_) #[true, true, true, true, true, true, true, true, true, true, true, true, true, true, true, true, true, true, true, true, true, true, false, false, false, false, false, false, false, false, false, false, false, false, false, false] rfl rfl (any_of HT_.out (by kernel_rfl)) (fun _ _ _ h => h) (Or.inl ⟨by rfl, ?_⟩) ?_ ?_
           rotate_left
           ·
            intro w'
            go_simp; with_reducible rfl
           rotate_left
           ·
            simp only [Act.put, List.setIfInBounds_toArray, List.set_cons_zero, List.set_cons_succ, i64_w, i32_w]
            rfl
           refine pure_ (i := 22) (N := some 61) (v := ?_) (a' := ?_) #[true, true, true, true, true, true, true, true, true, true, true, true, true, true, true, true, true, true, true, true, true, true, true, false, false, false, false, false, false, false, false, false, false, false, false, false] rfl rfl (any_of HT_.out (by kernel_rfl)) (fun _ _ _ h => h) (Or.inl ⟨by rfl, ?_⟩) ?_ ?_
           rotate_left
           ·
            intro w'
            go_simp; with_reducible rfl
           rotate_left
           ·
            simp only [Act.put, List.setIfInBounds_toArray, List.set_cons_zero, List.set_cons_succ, i64_w, i32_w]
            rfl
           refine pure_ (i := 23) (N := some 62) (v := ?_) (a' := ?_) #[true, true, true, true, true, true, true, true, true, true, true, true, true, true, true, true, true, true, true, true, true, true, true, true, false, false, false, false, false, false, false, false, false, false, false, false] rfl rfl (any_of HT_.out (by kernel_rfl)) (fun _ _ _ h => h) (Or.inl ⟨by rfl, ?_⟩) ?_ ?_
           rotate_left
           ·
            intro w'
            go_simp; with_reducible rfl
           rotate_left
           ·
            simp only [Act.put, List.setIfInBounds_toArray, List.set_cons_zero, List.set_cons_succ, i64_w, i32_w]
            rfl
           refine pure_ (i := 24) (N := some 63) (v := ?_) (a' := ?_) #[true, true, true, true, true, true, true, true, true, true, true, true, true, true, true, true, true, true, true, true, true, true, true, true, true, false, false, false, false, false, false, false, false, false, false, false] rfl rfl (any_of HT_.out (by kernel_rfl)) (fun _ _ _ h => h) (Or.inl ⟨by rfl, ?_⟩) ?_ ?_
           rotate_left
           ·
            intro w'
            go_simp; with_reducible rfl
           rotate_left
           ·
            simp only [Act.put, List.setIfInBounds_toArray, List.set_cons_zero, List.set_cons_succ, i64_w, i32_w]
            rfl
           refine pure_ (i := 25) (N := some 64) (v := ?_) (a' := ?_) #[true, true, true, true, true, true, true, true, true, true, true, true, true, true, true, true, true, true, true, true, true, true, true, true, true, true, false, false, false, false, false, false, false, false, false, false] rfl rfl (any_of HT_.out (by kernel_rfl)) (fun _ _ _ h => h) (Or.inl ⟨by rfl, ?_⟩) ?_ ?_
           rotate_left
           ·
            intro w'
            go_simp; with_reducible rfl
           rotate_left
           ·
            simp only [Act.put, List.setIfInBounds_toArray, List.set_cons_zero, List.set_cons_succ, i64_w, i32_w]
            rfl
           refine pure_ (i := 26) (N := some 65) (v := ?_) (a' := ?_) #[true, true, true, true, true, true, true, true, true, true, true, true, true, true, true, true, true, true, true, true, true, true, true, true, true, true, true, false, false, false, false, false, false, false, false, false] rfl rfl (any_of HT_.out (by kernel_rfl)) (fun _ _ _ h => h) (Or.inl ⟨by rfl, ?_⟩) ?_ ?_
           rotate_left
           ·
            intro w'
            go_simp; with_reducible rfl
           rotate_left
           ·
            simp only [Act.put, List.setIfInBounds_toArray, List.set_cons_zero, List.set_cons_succ, i64_w, i32_w]
            rfl
           refine pure_ (i := 29) (N := some 68) (v := ?_) (a' := ?_) #[true, true, true, true, true, true, true, true, true, true, true, true, true, true, true, true, true, true, true, true, true, true, true, true, true, true, true, false, false, true, false, false, false, false, false, false] rfl rfl (any_of HT_.out (by kernel_rfl)) (fun _ _ _ h => h) (Or.inl ⟨by rfl, ?_⟩) ?_ ?_
           rotate_left
           ·
            intro w'
            go_simp; with_reducible rfl
           rotate_left
           ·
            simp only [Act.put, List.setIfInBounds_toArray, List.set_cons_zero, List.set_cons_succ, i64_w, i32_w]
            rfl
           refine take_ (i := 27) (N := some 66) (v := ?_) (a' := ?_) #[true, true, true, true, true, true, true, true, true, true, true, true, true, true, true, true, true, true, true, true, true, true, true, true, true, true, true, true, false, true, false, false, false, false, false, false] rfl rfl (take_ofW HT_.out HW_.out (by kernel_rfl)) (fun _ _ _ h => h) (Or.inl ⟨by rfl, ?_⟩) hHeld ?_ ?_
           rotate_left
           ·
            rintro w' ⟨s0, s1, s2, s3⟩
            go_simp; with_reducible rfl
           rotate_left
           ·
            simp only [Act.put, List.setIfInBounds_toArray, List.set_cons_zero, List.set_cons_succ, i64_w, i32_w]
            rfl
           refine take_ (i := 30) (N := some 69) (v := ?_) (a' := ?_) #[true, true, true, true, true, true, true, true, true, true, true, true, true, true, true, true, true, true, true, true, true, true, true, true, true, true, true, true, false, true, true, false, false, false, false, false] rfl rfl (take_ofW HT_.out HW_.out (by kernel_rfl)) (fun _ _ _ h => h) (Or.inl ⟨by rfl, ?_⟩) hHeld ?_ ?_
           rotate_left
           ·
            rintro w' ⟨s0, s1, s2, s3⟩
            go_simp; with_reducible rfl
           rotate_left
           ·
            simp only [Act.put, List.setIfInBounds_toArray, List.set_cons_zero, List.set_cons_succ, i64_w, i32_w]
            rfl
           refine one_ (i := 28) (N := some 67) #[true, true, true, true, true, true, true, true, true, true, true, true, true, true, true, true, true, true, true, true, true, true, true, true, true, true, true, true, true, true, true, false, false, false, false, false] rfl rfl (one_of HT_.out (by kernel_rfl)) (by decide) (fun K hK => ?_)
           refine goes_ Try.func30 (by kernel_rfl) rfl #[.agg #[.int .u64 a2_2, .int .u64 a2_3]] (by rfl) rfl rfl (by (try simp only [List.map_toArray, List.map_cons, List.map_nil]); first | done | rfl | (simp only [List.length_drop, List.length_take]; rfl)) ?_
           with_reducible refine (posternref15_Lo.calls a2_2 a2_3 t293 _ A53.out).mono ?_
           rintro e w70 ⟨rfl, hb⟩
           refine ⟨_, rfl, ?_⟩
           have n0_ := Aside0.mk (blk_below (g := gb275) (o := .cells #[.int .u64 a2_0, .int .u64 a2_1, .int .u64 a2_2, .int .u64 a2_3] 63 (0, 0)) (by (with_reducible repeat (first | apply bN | apply bD | apply bA)); exact BK275.out) hb)
           have n1_ := Aside0.mk (blk_below (g := gb287) (o := .cells #[.int .u64 t281, .int .u64 t282] 58 (0, 0)) (by (with_reducible repeat (first | apply bN | apply bD | apply bA)); exact BK287.out) hb)
           have n2_ := Aside0.mk (blk_below (g := gb288) (o := .cells #[.int .u64 t283, .int .u64 t284] 58 (0, 0)) (by (with_reducible repeat (first | apply bN | apply bD | apply bA)); exact BK288.out) hb)
           have n3_ := Aside0.mk (below_step (by repeat (first | (with_reducible first | exact HB.out | apply lA | apply lN | apply lD | refine lS ?_ ‹_›) | exact HB.out)) hb)
           clear BK275; clear BK287; clear BK288; clear HB; have BK275 := n0_; have BK287 := n1_; have BK288 := n2_; have HB := n3_; clear n0_ n1_ n2_ n3_
           (try clear hb)
           (try clear hb2)
           (try clear hk)
           (try clear hi)
           refine hK.out _ _ ⟨(blk_cell BK275.out 0).trans rfl, (blk_cell BK275.out 1).trans rfl, (blk_cell BK275.out 2).trans rfl, (blk_cell BK275.out 3).trans rfl⟩ (fun hHeld => ?_)
           clear hK K
           refine norm_ (a' := ?_) ?_ ?_
           rotate_left
           ·
            show Act.put _ (some 67) _ = _
            simp only [Act.put, List.setIfInBounds_toArray, List.set_cons_zero, List.set_cons_succ, i64_w, i32_w]
            rfl
           refine one_ (i := 31) (N := some 70) #[true, true, true, true, true, true, true, true, true, true, true, true, true, true, true, true, true, true, true, true, true, true, true, true, true, true, true, true, true, true, true, true, false, false, false, false] rfl rfl (one_of HT_.out (by kernel_rfl)) (by decide) (fun K hK => ?_)
           refine goes_ Try.func38 (by kernel_rfl) rfl #[.int .i64 (rd y277 (ji6)), .bool x1_8, .int .u64 t293, .agg #[.int .u64 a2_0, .int .u64 a2_1], .bool false] (by rfl) rfl rfl (by (try simp only [List.map_toArray, List.map_cons, List.map_nil]); first | done | (simp only [hji6]; rfl) | rfl | (simp only [List.length_drop, List.length_take]; rfl)) ?_
           with_reducible refine (posternlaw15_pair.calls kj8 (rd y277 (ji6)) x1_8 t293 a2_0 a2_1 false t294 _ A54.out).mono ?_
           rintro e w71 ⟨rfl, hb⟩
           refine ⟨_, rfl, ?_⟩
           have n0_ := Aside0.mk (blk_below (g := gb275) (o := .cells #[.int .u64 a2_0, .int .u64 a2_1, .int .u64 a2_2, .int .u64 a2_3] 63 (0, 0)) (by (with_reducible repeat (first | apply bN | apply bD | apply bA)); exact BK275.out) hb)
           have n1_ := Aside0.mk (blk_below (g := gb287) (o := .cells #[.int .u64 t281, .int .u64 t282] 58 (0, 0)) (by (with_reducible repeat (first | apply bN | apply bD | apply bA)); exact BK287.out) hb)
           have n2_ := Aside0.mk (blk_below (g := gb288) (o := .cells #[.int .u64 t283, .int .u64 t284] 58 (0, 0)) (by (with_reducible repeat (first | apply bN | apply bD | apply bA)); exact BK288.out) hb)
           have n3_ := Aside0.mk (below_step (by repeat (first | (with_reducible first | exact HB.out | apply lA | apply lN | apply lD | refine lS ?_ ‹_›) | exact HB.out)) hb)
           clear BK275; clear BK287; clear BK288; clear HB; have BK275 := n0_; have BK287 := n1_; have BK288 := n2_; have HB := n3_; clear n0_ n1_ n2_ n3_
           (try clear hb)
           (try clear hb2)
           (try clear hk)
           (try clear hi)
           refine hK.out _ _ ⟨(blk_cell BK275.out 0).trans rfl, (blk_cell BK275.out 1).trans rfl, (blk_cell BK275.out 2).trans rfl, (blk_cell BK275.out 3).trans rfl⟩ (fun hHeld => ?_)
           clear hK K
           refine norm_ (a' := ?_) ?_ ?_
           rotate_left
           ·
            show Act.put _ (some 70) _ = _
            simp only [Act.put, List.setIfInBounds_toArray, List.set_cons_zero, List.set_cons_succ, i64_w, i32_w]
            rfl
           refine pure_ (i := 32) (N := some 71) (v := ?_) (a' := ?_) #[true, true, true, true, true, true, true, true, true, true, true, true, true, true, true, true, true, true, true, true, true, true, true, true, true, true, true, true, true, true, true, true, true, false, false, false] rfl rfl (any_of HT_.out (by kernel_rfl)) (fun _ _ _ h => h) (Or.inl ⟨by rfl, ?_⟩) ?_ ?_
           rotate_left
           ·
            intro w'
            go_simp; with_reducible rfl
           rotate_left
           ·
            simp only [Act.put, List.setIfInBounds_toArray, List.set_cons_zero, List.set_cons_succ, i64_w, i32_w]
            rfl
           refine pure_ (i := 33) (N := some 72) (v := ?_) (a' := ?_) #[true, true, true, true, true, true, true, true, true, true, true, true, true, true, true, true, true, true, true, true, true, true, true, true, true, true, true, true, true, true, true, true, true, true, false, false] rfl rfl (any_of HT_.out (by kernel_rfl)) (fun _ _ _ h => h) (Or.inl ⟨by rfl, ?_⟩) ?_ ?_
           rotate_left
           ·
            intro w'
            go_simp; with_reducible rfl
           rotate_left
           ·
            simp only [Act.put, List.setIfInBounds_toArray, List.set_cons_zero, List.set_cons_succ, i64_w, i32_w]
            rfl
           refine pure_ (i := 34) (N := some 73) (v := ?_) (a' := ?_) #[true, true, true, true, true, true, true, true, true, true, true, true, true, true, true, true, true, true, true, true, true, true, true, true, true, true, true, true, true, true, true, true, true, true, true, false] rfl rfl (any_of HT_.out (by kernel_rfl)) (fun _ _ _ h => h) (Or.inl ⟨by rfl, ?_⟩) ?_ ?_
           rotate_left
           ·
            intro w'
            go_simp; with_reducible rfl
           rotate_left
           ·
            simp only [Act.put, List.setIfInBounds_toArray, List.set_cons_zero, List.set_cons_succ, i64_w, i32_w]
            rfl
           refine pure_ (i := 35) (N := some 6) (v := ?_) (a' := ?_) #[true, true, true, true, true, true, true, true, true, true, true, true, true, true, true, true, true, true, true, true, true, true, true, true, true, true, true, true, true, true, true, true, true, true, true, true] rfl rfl (any_of HT_.out (by kernel_rfl)) (fun _ _ _ h => h) (Or.inl ⟨by rfl, ?_⟩) ?_ ?_
           rotate_left
           ·
            intro w'
            go_simp; with_reducible rfl
           rotate_left
           ·
            simp only [Act.put, List.setIfInBounds_toArray, List.set_cons_zero, List.set_cons_succ, i64_w, i32_w]
            rfl
           refine done_ (done_of HT_.out (by kernel_rfl)) ?_
           try go_wp2
           go_ret
           exact ⟨by first | rfl | (simp [errW_none, errW_some] <;> rfl) | (simp only [← hji6]; first | rfl | (simp [errW_none, errW_some] <;> rfl)) | (simp [*, errW_none, errW_some] <;> rfl), by repeat (first | (with_reducible first | exact HB.out | apply lA | apply lN | apply lD | refine lS ?_ ‹_›) | exact HB.out)⟩
          ·
           rw [if_neg c52] at H
           have c52b0 : ((rd y277 (ji6)) == 16) = false := beq_eq_false_iff_ne.mpr c52; have c52b1 : ((rd y277 (ji6)) != 16) = true := bne_iff_ne.mpr c52
           obtain rfl := Option.some.inj H
           have hcz72_0 : wc.cell? ⟨gb275, 0, none⟩ = some (.int .u64 a2_0) := (blk_cell BK275.out 0).trans rfl; have hcz72_1 : wc.cell? ⟨gb275, 1, none⟩ = some (.int .u64 a2_1) := (blk_cell BK275.out 1).trans rfl; have hcz72_2 : wc.cell? ⟨gb275, 2, none⟩ = some (.int .u64 a2_2) := (blk_cell BK275.out 2).trans rfl; have hcz72_3 : wc.cell? ⟨gb275, 3, none⟩ = some (.int .u64 a2_3) := (blk_cell BK275.out 3).trans rfl; have hfz72_0 := blk_frozen BK275.out 0; have hfz72_1 := blk_frozen BK275.out 1; have hfz72_2 := blk_frozen BK275.out 2; have hfz72_3 := blk_frozen BK275.out 3
           try go_wp2_with (first | ((with_reducible refine gate_callee (f := 36) rfl ?_); refine goesL_ (some 30) rfl rfl Try.func36 (by kernel_rfl) rfl #[.int .i64 (rd y277 (ji6)), .bool true, .bool x1_8, .agg #[.int .u64 a2_0, .int .u64 a2_1], .agg #[.int .u64 a2_2, .int .u64 a2_3]] rfl (by (try simp only [List.map_toArray, List.map_cons, List.map_nil]); first | done | (simp only [hji6]; rfl) | rfl | (simp only [List.length_drop, List.length_take]; rfl)) ?_; (with_reducible refine (span_Narrow.calls kj8 (rd y277 (ji6)) true x1_8 a2_0 a2_1 a2_2 a2_3 t281 t282 t283 t284 false t286 _ A16.out).mono ?_); rintro e w73 ⟨rfl, hb⟩; refine ⟨_, rfl, ?_⟩; have n0_ := Aside0.mk (blk_below (g := gb275) (o := .cells #[.int .u64 a2_0, .int .u64 a2_1, .int .u64 a2_2, .int .u64 a2_3] 63 (0, 0)) (by (with_reducible repeat (first | apply bN | apply bD | apply bA)); exact BK275.out) hb); have n1_ := Aside0.mk (below_step (by repeat (first | (with_reducible first | exact HB.out | apply lA | apply lN | apply lD | refine lS ?_ ‹_›) | exact HB.out)) hb); clear BK275; clear HB; have BK275 := n0_; have HB := n1_; clear n0_ n1_; (try clear hb); (try clear hb2); (try clear hk); (try clear hi)) | ((with_reducible refine gate_dst (N := 8) rfl ?_); refine box_event ?hg (N := 8) ?hd (cs := #[.int .u64 0, .int .u64 0]) (t := 58) ?hr ?_; (case hd => rfl); (case hg => rfl); (case hr => first | (go_simp; done) | (go_simp; rfl)); intro gb287 hg w74 hbox hb; have n0_ := Aside0.mk (blk_below (g := gb275) (o := .cells #[.int .u64 a2_0, .int .u64 a2_1, .int .u64 a2_2, .int .u64 a2_3] 63 (0, 0)) (by (with_reducible repeat (first | apply bN | apply bD | apply bA)); exact BK275.out) hb); have n1_ := Aside0.mk (below_step (by repeat (first | (with_reducible first | exact HB.out | apply lA | apply lN | apply lD | refine lS ?_ ‹_›) | exact HB.out)) hb); have n2_ := Aside0.mk (hbox); have n3_ := Aside0.mk ((by rw [hg]; exact (below_size (by repeat (first | (with_reducible first | exact HB.out | apply lA | apply lN | apply lD | refine lS ?_ ‹_›) | exact HB.out))) : w.heap.size ≤ gb287)); have n4_ := n3_; have n5_ := Aside0.mk ((by rw [hg]; exact Nat.ne_of_lt (blk_lt (g := gb275) (o := .cells #[.int .u64 a2_0, .int .u64 a2_1, .int .u64 a2_2, .int .u64 a2_3] 63 (0, 0)) (by (with_reducible repeat (first | apply bN | apply bD | apply bA)); exact BK275.out)) : gb275 ≠ gb287)); have n6_ := sy n5_; clear BK275; clear HB; have BK275 := n0_; have HB := n1_; have BK287 := n2_; have GW287 := n3_; have GE287 := n4_; have NB275_287 := n5_; have NB287_275 := n6_; clear n0_ n1_ n2_ n3_ n4_ n5_ n6_; clear hb hbox hg) | ((with_reducible refine gate_dst (N := 9) rfl ?_); refine box_event ?hg (N := 9) ?hd (cs := #[.int .u64 0, .int .u64 0]) (t := 58) ?hr ?_; (case hd => rfl); (case hg => rfl); (case hr => first | (go_simp; done) | (go_simp; rfl)); intro gb288 hg w75 hbox hb; have n0_ := Aside0.mk (blk_below (g := gb275) (o := .cells #[.int .u64 a2_0, .int .u64 a2_1, .int .u64 a2_2, .int .u64 a2_3] 63 (0, 0)) (by (with_reducible repeat (first | apply bN | apply bD | apply bA)); exact BK275.out) hb); have n1_ := Aside0.mk (blk_below (g := gb287) (o := .cells #[.int .u64 0, .int .u64 0] 58 (0, 0)) (by (with_reducible repeat (first | apply bN | apply bD | apply bA)); exact BK287.out) hb); have n2_ := Aside0.mk (below_step (by repeat (first | (with_reducible first | exact HB.out | apply lA | apply lN | apply lD | refine lS ?_ ‹_›) | exact HB.out)) hb); have n3_ := Aside0.mk (hbox); have n4_ := Aside0.mk ((by rw [hg]; exact (below_size (by repeat (first | (with_reducible first | exact HB.out | apply lA | apply lN | apply lD | refine lS ?_ ‹_›) | exact HB.out))) : w.heap.size ≤ gb288)); have n5_ := n4_; have n6_ := Aside0.mk ((by rw [hg]; exact Nat.ne_of_lt (blk_lt (g := gb275) (o := .cells #[.int .u64 a2_0, .int .u64 a2_1, .int .u64 a2_2, .int .u64 a2_3] 63 (0, 0)) (by (with_reducible repeat (first | apply bN | apply bD | apply bA)); exact BK275.out)) : gb275 ≠ gb288)); have n7_ := sy n6_; have n8_ := Aside0.mk ((by rw [hg]; exact Nat.ne_of_lt (blk_lt (g := gb287) (o := .cells #[.int .u64 0, .int .u64 0] 58 (0, 0)) (by (with_reducible repeat (first | apply bN | apply bD | apply bA)); exact BK287.out)) : gb287 ≠ gb288)); have n9_ := sy n8_; clear BK275; clear BK287; clear HB; have BK275 := n0_; have BK287 := n1_; have HB := n2_; have BK288 := n3_; have GW288 := n4_; have GE288 := n5_; have NB275_288 := n6_; have NB288_275 := n7_; have NB287_288 := n8_; have NB288_287 := n9_; clear n0_ n1_ n2_ n3_ n4_ n5_ n6_ n7_ n8_ n9_; clear hb hbox hg; have hnb76 := NB287_275.out; have hnc76 := NB275_287.out; have hnb77 := NB287_288.out; have hnc77 := NB288_287.out; have hcz78_0 : w75.cell? ⟨gb287, 0, none⟩ = some (.int .u64 0) := (blk_cell BK287.out 0).trans rfl; have hcz78_1 : w75.cell? ⟨gb287, 1, none⟩ = some (.int .u64 0) := (blk_cell BK287.out 1).trans rfl; have hfz78_0 := blk_frozen BK287.out 0; have hfz78_1 := blk_frozen BK287.out 1; have hnb79 := NB288_275.out; have hnc79 := NB275_288.out; have hcz80_0 : w75.cell? ⟨gb288, 0, none⟩ = some (.int .u64 0) := (blk_cell BK288.out 0).trans rfl; have hcz80_1 : w75.cell? ⟨gb288, 1, none⟩ = some (.int .u64 0) := (blk_cell BK288.out 1).trans rfl; have hfz80_0 := blk_frozen BK288.out 0; have hfz80_1 := blk_frozen BK288.out 1))
           have n0_ : Aside0 (((((w75.setCell ⟨gb287, 0, none⟩ (.int .u64 t281)).setCell ⟨gb287, 1, none⟩ (.int .u64 t282)).setCell ⟨gb288, 0, none⟩ (.int .u64 t283)).setCell ⟨gb288, 1, none⟩ (.int .u64 t284)).heap[gb275]? = some (.cells #[.int .u64 a2_0, .int .u64 a2_1, .int .u64 a2_2, .int .u64 a2_3] 63 (0, 0))) := ⟨by (with_reducible repeat (first | apply bN | apply bD | apply bA)); refine blk_far ?_ NB275_288.out _; (with_reducible repeat (first | apply bN | apply bD | apply bA)); refine blk_far ?_ NB275_288.out _; (with_reducible repeat (first | apply bN | apply bD | apply bA)); refine blk_far ?_ NB275_287.out _; (with_reducible repeat (first | apply bN | apply bD | apply bA)); refine blk_far ?_ NB275_287.out _; (with_reducible repeat (first | apply bN | apply bD | apply bA)); exact BK275.out⟩
           have n1_ : Aside0 (((((w75.setCell ⟨gb287, 0, none⟩ (.int .u64 t281)).setCell ⟨gb287, 1, none⟩ (.int .u64 t282)).setCell ⟨gb288, 0, none⟩ (.int .u64 t283)).setCell ⟨gb288, 1, none⟩ (.int .u64 t284)).heap[gb287]? = some (.cells #[.int .u64 t281, .int .u64 t282] 58 (0, 0))) := ⟨by (with_reducible repeat (first | apply bN | apply bD | apply bA)); refine blk_far ?_ NB287_288.out _; (with_reducible repeat (first | apply bN | apply bD | apply bA)); refine blk_far ?_ NB287_288.out _; (with_reducible repeat (first | apply bN | apply bD | apply bA)); refine blk_put (cs := #[.int .u64 t281, .int .u64 0]) ?_ 1 _ rfl; (with_reducible repeat (first | apply bN | apply bD | apply bA)); refine blk_put (cs := #[.int .u64 0, .int .u64 0]) ?_ 0 _ rfl; (with_reducible repeat (first | apply bN | apply bD | apply bA)); exact BK287.out⟩
           have n2_ : Aside0 (((((w75.setCell ⟨gb287, 0, none⟩ (.int .u64 t281)).setCell ⟨gb287, 1, none⟩ (.int .u64 t282)).setCell ⟨gb288, 0, none⟩ (.int .u64 t283)).setCell ⟨gb288, 1, none⟩ (.int .u64 t284)).heap[gb288]? = some (.cells #[.int .u64 t283, .int .u64 t284] 58 (0, 0))) := ⟨by (with_reducible repeat (first | apply bN | apply bD | apply bA)); refine blk_put (cs := #[.int .u64 t283, .int .u64 0]) ?_ 1 _ rfl; (with_reducible repeat (first | apply bN | apply bD | apply bA)); refine blk_put (cs := #[.int .u64 0, .int .u64 0]) ?_ 0 _ rfl; (with_reducible repeat (first | apply bN | apply bD | apply bA)); refine blk_far ?_ NB288_287.out _; (with_reducible repeat (first | apply bN | apply bD | apply bA)); refine blk_far ?_ NB288_287.out _; (with_reducible repeat (first | apply bN | apply bD | apply bA)); exact BK288.out⟩
           have n3_ : Aside0 (Below w.heap.size w ((((w75.setCell ⟨gb287, 0, none⟩ (.int .u64 t281)).setCell ⟨gb287, 1, none⟩ (.int .u64 t282)).setCell ⟨gb288, 0, none⟩ (.int .u64 t283)).setCell ⟨gb288, 1, none⟩ (.int .u64 t284))) := ⟨by repeat (first | (with_reducible first | exact HB.out | apply lA | apply lN | apply lD | refine lS ?_ ‹_›) | exact HB.out)⟩
           (try clear BK275)
           (try clear BK287)
           (try clear BK288)
           (try clear HB)
           generalize ((((w75.setCell ⟨gb287, 0, none⟩ (.int .u64 t281)).setCell ⟨gb287, 1, none⟩ (.int .u64 t282)).setCell ⟨gb288, 0, none⟩ (.int .u64 t283)).setCell ⟨gb288, 1, none⟩ (.int .u64 t284)) = w81 at n0_ n1_ n2_ n3_ ⊢
           have BK275 := n0_; have BK287 := n1_; have BK288 := n2_; have HB := n3_; clear n0_ n1_ n2_ n3_; have n0_ := Aside0.mk (blk_drew BK275.out); have n1_ := Aside0.mk (blk_drew BK287.out); have n2_ := Aside0.mk (blk_drew BK288.out)
           have n3_ := Aside0.mk (below_drew1 HB.out)
           clear BK275; clear BK287; clear BK288; clear HB; have BK275 := n0_; have BK287 := n1_; have BK288 := n2_; have HB := n3_; clear n0_ n1_ n2_ n3_
           refine start_ (n := 36) (S := fun w' => w'.cell? ⟨gb275, 0, none⟩ = some (.int .u64 a2_0) ∧ w'.cell? ⟨gb275, 1, none⟩ = some (.int .u64 a2_1) ∧ w'.cell? ⟨gb275, 2, none⟩ = some (.int .u64 a2_2) ∧ w'.cell? ⟨gb275, 3, none⟩ = some (.int .u64 a2_3)) (ds := []) #[false, false, false, false, false, false, false, false, false, false, false, false, false, false, false, false, false, false, false, false, false, false, false, false, false, false, false, false, false, false, false, false, false, false, false, false] (by kernel_rfl) rfl rfl ⟨(blk_cell BK275.out 0).trans rfl, (blk_cell BK275.out 1).trans rfl, (blk_cell BK275.out 2).trans rfl, (blk_cell BK275.out 3).trans rfl⟩ (fun hHeld => ?_); refine with_tabW posternlaw15_SpanEnds.tab10 posternlaw15_SpanEnds.bits10 (fun HT_ HW_ => ?_)
           generalize w81.drew = w82 at BK275 BK287 BK288 HB hHeld ⊢
           refine pure_ (i := 0) (N := some 39) (v := ?_) (a' := ?_) #[true, false, false, false, false, false, false, false, false, false, false, false, false, false, false, false, false, false, false, false, false, false, false, false, false, false, false, false, false, false, false, false, false, false, false, false] rfl rfl (any_of HT_.out (by kernel_rfl)) (fun _ _ _ h => h) (Or.inl ⟨by rfl, ?_⟩) ?_ ?_
           rotate_left
           ·
            intro w'
            go_simp; with_reducible rfl
           rotate_left
           ·
            simp only [Act.put, List.setIfInBounds_toArray, List.set_cons_zero, List.set_cons_succ, i64_w, i32_w]
            rfl
           refine pure_ (i := 1) (N := some 40) (v := ?_) (a' := ?_) #[true, true, false, false, false, false, false, false, false, false, false, false, false, false, false, false, false, false, false, false, false, false, false, false, false, false, false, false, false, false, false, false, false, false, false, false] rfl rfl (any_of HT_.out (by kernel_rfl)) (fun _ _ _ h => h) (Or.inl ⟨by rfl, ?_⟩) ?_ ?_
           rotate_left
           ·
            intro w'
            go_simp; with_reducible rfl
           rotate_left
           ·
            simp only [Act.put, List.setIfInBounds_toArray, List.set_cons_zero, List.set_cons_succ, i64_w, i32_w]
            rfl
           refine pure_ (i := 2) (N := some 41) (v := ?_) (a' := ?_) #[true, true, true, false, false, false, false, false, false, false, false, false, false, false, false, false, false, false, false, false, false, false, false, false, false, false, false, false, false, false, false, false, false, false, false, false] rfl rfl (any_of HT_.out (by kernel_rfl)) (fun _ _ _ h => h) (Or.inl ⟨by rfl, ?_⟩) ?_ ?_
           rotate_left
           ·
            intro w'
            go_simp; with_reducible rfl
           rotate_left
           ·
            simp only [Act.put, List.setIfInBounds_toArray, List.set_cons_zero, List.set_cons_succ, i64_w, i32_w]
            rfl
           refine pure_ (i := 5) (N := some 44) (v := ?_) (a' := ?_) #[true, true, true, false, false, true, false, false, false, false, false, false, false, false, false, false, false, false, false, false, false, false, false, false, false, false, false, false, false, false, false, false, false, false, false, false] rfl rfl (any_of HT_.out (by kernel_rfl)) (fun _ _ _ h => h) (Or.inl ⟨by rfl, ?_⟩) ?_ ?_
           rotate_left
           ·
            intro w'
            go_simp; with_reducible rfl
           rotate_left
           ·
            simp only [Act.put, List.setIfInBounds_toArray, List.set_cons_zero, List.set_cons_succ, i64_w, i32_w]
            rfl
           refine take_ (i := 3) (N := some 42) (v := ?_) (a' := ?_) #[true, true, true, true, false, true, false, false, false, false, false, false, false, false, false, false, false, false, false, false, false, false, false, false, false, false, false, false, false, false, false, false, false, false, false, false] rfl rfl (take_ofW HT_.out HW_.out (by kernel_rfl)) (fun _ _ _ h => h) (Or.inl ⟨by rfl, ?_⟩) hHeld ?_ ?_
           rotate_left
           ·
            rintro w' ⟨s0, s1, s2, s3⟩
            go_simp; with_reducible rfl
           rotate_left
           ·
            simp only [Act.put, List.setIfInBounds_toArray, List.set_cons_zero, List.set_cons_succ, i64_w, i32_w]
            rfl
           refine take_ (i := 6) (N := some 45) (v := ?_) (a' := ?_) #[true, true, true, true, false, true, true, false, false, false, false, false, false, false, false, false, false, false, false, false, false, false, false, false, false, false, false, false, false, false, false, false, false, false, false, false] rfl rfl (take_ofW HT_.out HW_.out (by kernel_rfl)) (fun _ _ _ h => h) (Or.inl ⟨by rfl, ?_⟩) hHeld ?_ ?_
           rotate_left
           ·
            rintro w' ⟨s0, s1, s2, s3⟩
            go_simp; with_reducible rfl
           rotate_left
           ·
            simp only [Act.put, List.setIfInBounds_toArray, List.set_cons_zero, List.set_cons_succ, i64_w, i32_w]
            rfl
           refine one_ (i := 4) (N := some 43) #[true, true, true, true, true, true, true, false, false, false, false, false, false, false, false, false, false, false, false, false, false, false, false, false, false, false, false, false, false, false, false, false, false, false, false, false] rfl rfl (one_of HT_.out (by kernel_rfl)) (by decide) (fun K hK => ?_)
           refine goes_ Try.func30 (by kernel_rfl) rfl #[.agg #[.int .u64 a2_0, .int .u64 a2_1]] (by rfl) rfl rfl (by (try simp only [List.map_toArray, List.map_cons, List.map_nil]); first | done | rfl | (simp only [List.length_drop, List.length_take]; rfl)) ?_
           with_reducible refine (posternref15_Lo.calls a2_0 a2_1 t289 _ A46.out).mono ?_
           rintro e w83 ⟨rfl, hb⟩
           refine ⟨_, rfl, ?_⟩
           have n0_ := Aside0.mk (blk_below (g := gb275) (o := .cells #[.int .u64 a2_0, .int .u64 a2_1, .int .u64 a2_2, .int .u64 a2_3] 63 (0, 0)) (by (with_reducible repeat (first | apply bN | apply bD | apply bA)); exact BK275.out) hb)
           have n1_ := Aside0.mk (blk_below (g := gb287) (o := .cells #[.int .u64 t281, .int .u64 t282] 58 (0, 0)) (by (with_reducible repeat (first | apply bN | apply bD | apply bA)); exact BK287.out) hb)
           have n2_ := Aside0.mk (blk_below (g := gb288) (o := .cells #[.int .u64 t283, .int .u64 t284] 58 (0, 0)) (by (with_reducible repeat (first | apply bN | apply bD | apply bA)); exact BK288.out) hb)
           have n3_ := Aside0.mk (below_step (by repeat (first | (with_reducible first | exact HB.out | apply lA | apply lN | apply lD | refine lS ?_ ‹_›) | exact HB.out)) hb)
           clear BK275; clear BK287; clear BK288; clear HB; have BK275 := n0_; have BK287 := n1_; have BK288 := n2_; have HB := n3_; clear n0_ n1_ n2_ n3_
           (try clear hb)
           (try clear hb2)
           (try clear hk)
           (try clear hi)
           refine hK.out _ _ ⟨(blk_cell BK275.out 0).trans rfl, (blk_cell BK275.out 1).trans rfl, (blk_cell BK275.out 2).trans rfl, (blk_cell BK275.out 3).trans rfl⟩ (fun hHeld => ?_)
           clear hK K
           refine norm_ (a' := ?_) ?_ ?_
           rotate_left
           ·
            show Act.put _ (some 43) _ = _
            simp only [Act.put, List.setIfInBounds_toArray, List.set_cons_zero, List.set_cons_succ, i64_w, i32_w]
            rfl
           refine one_ (i := 7) (N := some 46) #[true, true, true, true, true, true, true, true, false, false, false, false, false, false, false, false, false, false, false, false, false, false, false, false, false, false, false, false, false, false, false, false, false, false, false, false] rfl rfl (one_of HT_.out (by kernel_rfl)) (by decide) (fun K hK => ?_)
           refine goes_ Try.func38 (by kernel_rfl) rfl #[.int .i64 (rd y277 (ji6)), .bool x1_8, .int .u64 t289, .agg #[.int .u64 a2_2, .int .u64 a2_3], .bool true] (by rfl) rfl rfl (by (try simp only [List.map_toArray, List.map_cons, List.map_nil]); first | done | (simp only [hji6]; rfl) | rfl | (simp only [List.length_drop, List.length_take]; rfl)) ?_
           with_reducible refine (posternlaw15_pair.calls kj8 (rd y277 (ji6)) x1_8 t289 a2_2 a2_3 true false _ A47.out).mono ?_
           rintro e w84 ⟨rfl, hb⟩
           refine ⟨_, rfl, ?_⟩
           have n0_ := Aside0.mk (blk_below (g := gb275) (o := .cells #[.int .u64 a2_0, .int .u64 a2_1, .int .u64 a2_2, .int .u64 a2_3] 63 (0, 0)) (by (with_reducible repeat (first | apply bN | apply bD | apply bA)); exact BK275.out) hb)
           have n1_ := Aside0.mk (blk_below (g := gb287) (o := .cells #[.int .u64 t281, .int .u64 t282] 58 (0, 0)) (by (with_reducible repeat (first | apply bN | apply bD | apply bA)); exact BK287.out) hb)
           have n2_ := Aside0.mk (blk_below (g := gb288) (o := .cells #[.int .u64 t283, .int .u64 t284] 58 (0, 0)) (by (with_reducible repeat (first | apply bN | apply bD | apply bA)); exact BK288.out) hb)
           have n3_ := Aside0.mk (below_step (by repeat (first | (with_reducible first | exact HB.out | apply lA | apply lN | apply lD | refine lS ?_ ‹_›) | exact HB.out)) hb)
           clear BK275; clear BK287; clear BK288; clear HB; have BK275 := n0_; have BK287 := n1_; have BK288 := n2_; have HB := n3_; clear n0_ n1_ n2_ n3_
           (try clear hb)
           (try clear hb2)
           (try clear hk)
           (try clear hi)
           refine hK.out _ _ ⟨(blk_cell BK275.out 0).trans rfl, (blk_cell BK275.out 1).trans rfl, (blk_cell BK275.out 2).trans rfl, (blk_cell BK275.out 3).trans rfl⟩ (fun hHeld => ?_)
           clear hK K
           refine norm_ (a' := ?_) ?_ ?_
           rotate_left
           ·
            show Act.put _ (some 46) _ = _
            simp only [Act.put, List.setIfInBounds_toArray, List.set_cons_zero, List.set_cons_succ, i64_w, i32_w]
            rfl
           refine pure_ (i := 8) (N := some 47) (v := ?_) (a' := ?_) #[true, true, true, true, true, true, true, true, true, false, false, false, false, false, false, false, false, false, false, false, false, false, false, false, false, false, false, false, false, false, false, false, false, false, false, false] rfl rfl (any_of HT_.out (by kernel_rfl)) (fun _ _ _ h => h) (Or.inl ⟨by rfl, ?_⟩) ?_ ?_
           rotate_left
           ·
            intro w'
            go_simp; with_reducible rfl
           rotate_left
           ·
            simp only [Act.put, List.setIfInBounds_toArray, List.set_cons_zero, List.set_cons_succ, i64_w, i32_w]
            rfl
           refine pure_ (i := 9) (N := some 48) (v := ?_) (a' := ?_) #[true, true, true, true, true, true, true, true, true, true, false, false, false, false, false, false, false, false, false, false, false, false, false, false, false, false, false, false, false, false, false, false, false, false, false, false] rfl rfl (any_of HT_.out (by kernel_rfl)) (fun _ _ _ h => h) (Or.inl ⟨by rfl, ?_⟩) ?_ ?_
           rotate_left
           ·
            intro w'
            go_simp; with_reducible rfl
           rotate_left
           ·
            simp only [Act.put, List.setIfInBounds_toArray, List.set_cons_zero, List.set_cons_succ, i64_w, i32_w]
            rfl
           refine pure_ (i := 10) (N := some 49) (v := ?_) (a' := ?_) #[true, true, true, true, true, true, true, true, true, true, true, false, false, false, false, false, false, false, false, false, false, false, false, false, false, false, false, false, false, false, false, false, false, false, false, false] rfl rfl (any_of HT_.out (by kernel_rfl)) (fun _ _ _ h => h) (Or.inl ⟨by rfl, ?_⟩) ?_ ?_
           rotate_left
           ·
            intro w'
            go_simp; with_reducible rfl
           rotate_left
           ·
            simp only [Act.put, List.setIfInBounds_toArray, List.set_cons_zero, List.set_cons_succ, i64_w, i32_w]
            rfl
           refine pure_ (i := 11) (N := some 50) (v := ?_) (a' := ?_) #[true, true, true, true, true, true, true, true, true, true, true, true, false, false, false, false, false, false, false, false, false, false, false, false, false, false, false, false, false, false, false, false, false, false, false, false] rfl rfl (any_of HT_.out (by kernel_rfl)) (fun _ _ _ h => h) (Or.inl ⟨by rfl, ?_⟩) ?_ ?_
           rotate_left
           ·
            intro w'
            go_simp; with_reducible rfl
           rotate_left
           ·
            simp only [Act.put, List.setIfInBounds_toArray, List.set_cons_zero, List.set_cons_succ, i64_w, i32_w]
            rfl
           refine pure_ (i := 12) (N := some 51) (v := ?_) (a' := ?_) #[true, true, true, true, true, true, true, true, true, true, true, true, true, false, false, false, false, false, false, false, false, false, false, false, false, false, false, false, false, false, false, false, false, false, false, false] rfl rfl (any_of HT_.out (by kernel_rfl)) (fun _ _ _ h => h) (Or.inl ⟨by rfl, ?_⟩) ?_ ?_
           rotate_left
           ·
            intro w'
            go_simp; with_reducible rfl
           rotate_left
           ·
            simp only [Act.put, List.setIfInBounds_toArray, List.set_cons_zero, List.set_cons_succ, i64_w, i32_w]
            rfl
           refine pure_ (i := 15) (N := some 54) (v := ?_) (a' := ?_) #[true, true, true, true, true, true, true, true, true, true, true, true, true, false, false, true, false, false, false, false, false, false, false, false, false, false, false, false, false, false, false, false, false, false, false, false] rfl rfl (any_of HT_.out (by kernel_rfl)) (fun _ _ _ h => h) (Or.inl ⟨by rfl, ?_⟩) ?_ ?_
           rotate_left
           ·
            intro w'
            go_simp; with_reducible rfl
           rotate_left
           ·
            simp only [Act.put, List.setIfInBounds_toArray, List.set_cons_zero, List.set_cons_succ, i64_w, i32_w]
            rfl
           refine take_ (i := 13) (N := some 52) (v := ?_) (a' := ?_) #[true, true, true, true, true, true, true, true, true, true, true, true, true, true, false, true, false, false, false, false, false, false, false, false, false, false, false, false, false, false, false, false, false, false, false, false] rfl rfl (take_ofW HT_.out HW_.out (by kernel_rfl)) (fun _ _ _ h => h) (Or.inl ⟨by rfl, ?_⟩) hHeld ?_ ?_
           rotate_left
           ·
            rintro w' ⟨s0, s1, s2, s3⟩
            go_simp; with_reducible rfl
           rotate_left
           ·
            simp only [Act.put, List.setIfInBounds_toArray, List.set_cons_zero, List.set_cons_succ, i64_w, i32_w]
            rfl
           refine take_ (i := 16) (N := some 55) (v := ?_) (a' := ?_) #[true, true, true, true, true, true, true, true, true, true, true, true, true, true, false, true, true, false, false, false, false, false, false, false, false, false, false, false, false, false, false, false, false, false, false, false] rfl rfl (take_ofW HT_.out HW_.out (by kernel_rfl)) (fun _ _ _ h => h) (Or.inl ⟨by rfl, ?_⟩) hHeld ?_ ?_
           rotate_left
           ·
            rintro w' ⟨s0, s1, s2, s3⟩
            go_simp; with_reducible rfl
           rotate_left
           ·
            simp only [Act.put, List.setIfInBounds_toArray, List.set_cons_zero, List.set_cons_succ, i64_w, i32_w]
            rfl
           refine one_ (i := 14) (N := some 53) #[true, true, true, true, true, true, true, true, true, true, true, true, true, true, true, true, true, false, false, false, false, false, false, false, false, false, false, false, false, false, false, false, false, false, false, false] rfl rfl (one_of HT_.out (by kernel_rfl)) (by decide) (fun K hK => ?_)
           refine goes_ Try.func31 (by kernel_rfl) rfl #[.agg #[.int .u64 a2_0, .int .u64 a2_1]] (by rfl) rfl rfl (by (try simp only [List.map_toArray, List.map_cons, List.map_nil]); first | done | rfl | (simp only [List.length_drop, List.length_take]; rfl)) ?_
           with_reducible refine (posternref15_Hi.calls a2_0 a2_1 t291 _ A49.out).mono ?_
           rintro e w85 ⟨rfl, hb⟩
           refine ⟨_, rfl, ?_⟩
           have n0_ := Aside0.mk (blk_below (g := gb275) (o := .cells #[.int .u64 a2_0, .int .u64 a2_1, .int .u64 a2_2, .int .u64 a2_3] 63 (0, 0)) (by (with_reducible repeat (first | apply bN | apply bD | apply bA)); exact BK275.out) hb)
           have n1_ := Aside0.mk (blk_below (g := gb287) (o := .cells #[.int .u64 t281, .int .u64 t282] 58 (0, 0)) (by (with_reducible repeat (first | apply bN | apply bD | apply bA)); exact BK287.out) hb)
           have n2_ := Aside0.mk (blk_below (g := gb288) (o := .cells #[.int .u64 t283, .int .u64 t284] 58 (0, 0)) (by (with_reducible repeat (first | apply bN | apply bD | apply bA)); exact BK288.out) hb)
           have n3_ := Aside0.mk (below_step (by repeat (first | (with_reducible first | exact HB.out | apply lA | apply lN | apply lD | refine lS ?_ ‹_›) | exact HB.out)) hb)
           clear BK275; clear BK287; clear BK288; clear HB; have BK275 := n0_; have BK287 := n1_; have BK288 := n2_; have HB := n3_; clear n0_ n1_ n2_ n3_
           (try clear hb)
           (try clear hb2)
           (try clear hk)
           (try clear hi)
           refine hK.out _ _ ⟨(blk_cell BK275.out 0).trans rfl, (blk_cell BK275.out 1).trans rfl, (blk_cell BK275.out 2).trans rfl, (blk_cell BK275.out 3).trans rfl⟩ (fun hHeld => ?_)
           clear hK K
           refine norm_ (a' := ?_) ?_ ?_
           rotate_left
           ·
            show Act.put _ (some 53) _ = _
            simp only [Act.put, List.setIfInBounds_toArray, List.set_cons_zero, List.set_cons_succ, i64_w, i32_w]
            rfl
           refine one_ (i := 17) (N := some 56) #[true, true, true, true, true, true, true, true, true, true, true, true, true, true, true, true, true, true, false, false, false, false, false, false, false, false, false, false, false, false, false, false, false, false, false, false] rfl rfl (one_of HT_.out (by kernel_rfl)) (by decide) (fun K hK => ?_)
           refine goes_ Try.func38 (by kernel_rfl) rfl #[.int .i64 (rd y277 (ji6)), .bool x1_8, .int .u64 t291, .agg #[.int .u64 a2_2, .int .u64 a2_3], .bool true] (by rfl) rfl rfl (by (try simp only [List.map_toArray, List.map_cons, List.map_nil]); first | done | (simp only [hji6]; rfl) | rfl | (simp only [List.length_drop, List.length_take]; rfl)) ?_
           with_reducible refine (posternlaw15_pair.calls kj8 (rd y277 (ji6)) x1_8 t291 a2_2 a2_3 true false _ A50.out).mono ?_
           rintro e w86 ⟨rfl, hb⟩
           refine ⟨_, rfl, ?_⟩
           have n0_ := Aside0.mk (blk_below (g := gb275) (o := .cells #[.int .u64 a2_0, .int .u64 a2_1, .int .u64 a2_2, .int .u64 a2_3] 63 (0, 0)) (by (with_reducible repeat (first | apply bN | apply bD | apply bA)); exact BK275.out) hb)
           have n1_ := Aside0.mk (blk_below (g := gb287) (o := .cells #[.int .u64 t281, .int .u64 t282] 58 (0, 0)) (by (with_reducible repeat (first | apply bN | apply bD | apply bA)); exact BK287.out) hb)
           have n2_ := Aside0.mk (blk_below (g := gb288) (o := .cells #[.int .u64 t283, .int .u64 t284] 58 (0, 0)) (by (with_reducible repeat (first | apply bN | apply bD | apply bA)); exact BK288.out) hb)
           have n3_ := Aside0.mk (below_step (by repeat (first | (with_reducible first | exact HB.out | apply lA | apply lN | apply lD | refine lS ?_ ‹_›) | exact HB.out)) hb)
           clear BK275; clear BK287; clear BK288; clear HB; have BK275 := n0_; have BK287 := n1_; have BK288 := n2_; have HB := n3_; clear n0_ n1_ n2_ n3_
           (try clear hb)
           (try clear hb2)
           (try clear hk)
           (try clear hi)
           refine hK.out _ _ ⟨(blk_cell BK275.out 0).trans rfl, (blk_cell BK275.out 1).trans rfl, (blk_cell BK275.out 2).trans rfl, (blk_cell BK275.out 3).trans rfl⟩ (fun hHeld => ?_)
           clear hK K
           refine norm_ (a' := ?_) ?_ ?_
           rotate_left
           ·
            show Act.put _ (some 56) _ = _
            simp only [Act.put, List.setIfInBounds_toArray, List.set_cons_zero, List.set_cons_succ, i64_w, i32_w]
            rfl
           refine pure_ (i := 18) (N := some 57) (v := ?_) (a' := ?_) #[true, true, true, true, true, true, true, true, true, true, true, true, true, true, true, true, true, true, true, false, false, false, false, false, false, false, false, false, false, false, false, false, false, false, false, false] rfl rfl (any_of HT_.out (by kernel_rfl)) (fun _ _ _ h => h) (Or.inl ⟨by rfl, ?_⟩) ?_ ?_
           rotate_left
           ·
            intro w'
            go_simp; with_reducible rfl
           rotate_left
           ·
            simp only [Act.put, List.setIfInBounds_toArray, List.set_cons_zero, List.set_cons_succ, i64_w, i32_w]
            rfl
           refine pure_ (i := 19) (N := some 58) (v := ?_) (a' := ?_) #[true, true, true, true, true, true, true, true, true, true, true, true, true, true, true, true, true, true, true, true, false, false, false, false, false, false, false, false, false, false, false, false, false, false, false, false] rfl rfl (any_of HT_.out (by kernel_rfl)) (fun _ _ _ h => h) (Or.inl ⟨by rfl, ?_⟩) ?_ ?_
           rotate_left
           ·
            intro w'
            go_simp; with_reducible rfl
           rotate_left
           ·
            simp only [Act.put, List.setIfInBounds_toArray, List.set_cons_zero, List.set_cons_succ, i64_w, i32_w]
            rfl
           refine pure_ (i := 20) (N := some 59) (v := ?_) (a' := ?_) #[true, true, true, true, true, true, true, true, true, true, true, true, true, true, true, true, true, true, true, true, true, false, false, false, false, false, false, false, false, false, false, false, false, false, false, false] rfl rfl (any_of HT_.out (by kernel_rfl)) (fun _ _ _ h => h) (Or.inl ⟨by rfl, ?_⟩) ?_ ?_
           rotate_left
           ·
            intro w'
            go_simp; with_reducible rfl
           rotate_left
           ·
            simp only [Act.put, List.setIfInBounds_toArray, List.set_cons_zero, List.set_cons_succ, i64_w, i32_w]
            rfl
           refine pure_ (i := 21) (N := some 60) (v := ?_) (a' := ?_) #[true, true, true, true, true, true, true, true, true, true, true, true, true, true, true, true, true, true, true, true, true, true, false, false, false, false, false, false, false, false, false, false, false, false, false, false] rfl rfl (any_of HT_.out (by kernel_rfl)) (fun _ _ _ h => h) (Or.inl ⟨by rfl, ?_⟩) ?_ ?_
           rotate_left
           ·
            intro w'
            go_simp; with_reducible rfl
           rotate_left
           ·
            simp only [Act.put, List.setIfInBounds_toArray, List.set_cons_zero, List.set_cons_succ, i64_w, i32_w]
            rfl
           refine pure_ (i := 22) (N := some 61) (v := ?_) (a' := ?_) #[true, true, true, true, true, true, true, true, true, true, true, true, true, true, true, true, true, true, true, true, true, true, true, false, false, false, false, false, false, false, false, false, false, false, false, false] rfl rfl (any_of HT_.out (by kernel_rfl)) (fun _ _ _ h => h) (Or.inl ⟨by rfl, ?_⟩) ?_ ?_
           rotate_left
           ·
            intro w'
            go_simp; with_reducible rfl
           rotate_left
           ·
            simp only [Act.put, List.setIfInBounds_toArray, List.set_cons_zero, List.set_cons_succ, i64_w, i32_w]
            rfl
           refine pure_ (i := 23) (N := some 62) (v := ?_) (a' := ?_) #[true, true, true, true, true, true, true, true, true, true, true, true, true, true, true, true, true, true, true, true, true, true, true, true, false, false, false, false, false, false, false, false, false, false, false, false] rfl rfl (any_of HT_.out (by kernel_rfl)) (fun _ _ _ h => h) (Or.inl ⟨by rfl, ?_⟩) ?_ ?_
           rotate_left
           ·
            intro w'
            go_simp; with_reducible rfl
           rotate_left
           ·
            simp only [Act.put, List.setIfInBounds_toArray, List.set_cons_zero, List.set_cons_succ, i64_w, i32_w]
            rfl
           refine pure_ (i := 24) (N := some 63) (v := undef) (a' := ?_) #[true, true, true, true, true, true, true, true, true, true, true, true, true, true, true, true, true, true, true, true, true, true, true, true, true, false, false, false, false, false, false, false, false, false, false, false] rfl rfl (any_of HT_.out (by kernel_rfl)) (fun _ _ _ h => h) (Or.inr ⟨by rfl, rfl⟩) ?_ ?_
           rotate_left
           ·
            simp only [Act.put, List.setIfInBounds_toArray, List.set_cons_zero, List.set_cons_succ, i64_w, i32_w]
            rfl
           refine pure_ (i := 25) (N := some 64) (v := undef) (a' := ?_) #[true, true, true, true, true, true, true, true, true, true, true, true, true, true, true, true, true, true, true, true, true, true, true, true, true, true, false, false, false, false, false, false, false, false, false, false] rfl rfl (any_of HT_.out (by kernel_rfl)) (fun _ _ _ h => h) (Or.inr ⟨by rfl, rfl⟩) ?_ ?_
           rotate_left
           ·
            simp only [Act.put, List.setIfInBounds_toArray, List.set_cons_zero, List.set_cons_succ, i64_w, i32_w]
            rfl
           refine pure_ (i := 26) (N := some 65) (v := undef) (a' := ?_) #[true, true, true, true, true, true, true, true, true, true, true, true, true, true, true, true, true, true, true, true, true, true, true, true, true, true, true, false, false, false, false, false, false, false, false, false] rfl rfl (any_of HT_.out (by kernel_rfl)) (fun _ _ _ h => h) (Or.inr ⟨by rfl, rfl⟩) ?_ ?_
           rotate_left
           ·
            simp only [Act.put, List.setIfInBounds_toArray, List.set_cons_zero, List.set_cons_succ, i64_w, i32_w]
            rfl
           refine pure_ (i := 27) (N := some 66) (v := undef) (a' := ?_) #[true, true, true, true, true, true, true, true, true, true, true, true, true, true, true, true, true, true, true, true, true, true, true, true, true, true, true, true, false, false, false, false, false, false, false, false] rfl rfl (any_of HT_.out (by kernel_rfl)) (fun _ _ _ h => h) (Or.inr ⟨by rfl, rfl⟩) ?_ ?_
           rotate_left
           ·
            simp only [Act.put, List.setIfInBounds_toArray, List.set_cons_zero, List.set_cons_succ, i64_w, i32_w]
            rfl
           refine pure_ (i := 28) (N := some 67) (v := undef) (a' := ?_) #[true, true, true, true, true, true, true, true, true, true, true, true, true, true, true, true, true, true, true, true, true, true, true, true, true, true, true, true, true, false, false, false, false, false, false, false] rfl rfl (any_of HT_.out (by kernel_rfl)) (fun _ _ _ h => h) (Or.inr ⟨by rfl, rfl⟩) ?_ ?_
           rotate_left
           ·
            simp only [Act.put, List.setIfInBounds_toArray, List.set_cons_zero, List.set_cons_succ, i64_w, i32_w]
            rfl
           refine pure_ (i := 29) (N := some 68) (v := undef) (a' := ?_) #[true, true, true, true, true, true, true, true, true, true, true, true, true, true, true, true, true, true, true, true, true, true, true, true, true, true, true, true, true, true, false, false, false, false, false, false] rfl rfl (any_of HT_.out (by kernel_rfl)) (fun _ _ _ h => h) (Or.inr ⟨by rfl, rfl⟩) ?_ ?_
           rotate_left
           ·
            simp only [Act.put, List.setIfInBounds_toArray, List.set_cons_zero, List.set_cons_succ, i64_w, i32_w]
            rfl
           refine pure_ (i := 30) (N := some 69) (v := undef) (a' := ?_) #[true, true, true, true, true, true, true, true, true, true, true, true, true, true, true, true, true, true, true, true, true, true, true, true, true, true, true, true, true, true, true, false, false, false, false, false] rfl rfl (any_of HT_.out (by kernel_rfl)) (fun _ _ _ h => h) (Or.inr ⟨by rfl, rfl⟩) ?_ ?_
           rotate_left
           ·
            simp only [Act.put, List.setIfInBounds_toArray, List.set_cons_zero, List.set_cons_succ, i64_w, i32_w]
            rfl
           refine pure_ (i := 31) (N := some 70) (v := undef) (a' := ?_) #[true, true, true, true, true, true, true, true, true, true, true, true, true, true, true, true, true, true, true, true, true, true, true, true, true, true, true, true, true, true, true, true, false, false, false, false] rfl rfl (any_of HT_.out (by kernel_rfl)) (fun _ _ _ h => h) (Or.inr ⟨by rfl, rfl⟩) ?_ ?_
           rotate_left
           ·
            simp only [Act.put, List.setIfInBounds_toArray, List.set_cons_zero, List.set_cons_succ, i64_w, i32_w]
            rfl
           refine pure_ (i := 32) (N := some 71) (v := ?_) (a' := ?_) #[true, true, true, true, true, true, true, true, true, true, true, true, true, true, true, true, true, true, true, true, true, true, true, true, true, true, true, true, true, true, true, true, true, false, false, false] rfl rfl (any_of HT_.out (by kernel_rfl)) (fun _ _ _ h => h) (Or.inl ⟨by rfl, ?_⟩) ?_ ?_
           rotate_left
           ·
            intro w'
            go_simp; with_reducible rfl
           rotate_left
           ·
            simp only [Act.put, List.setIfInBounds_toArray, List.set_cons_zero, List.set_cons_succ, i64_w, i32_w]
            rfl
           refine pure_ (i := 33) (N := some 72) (v := ?_) (a' := ?_) #[true, true, true, true, true, true, true, true, true, true, true, true, true, true, true, true, true, true, true, true, true, true, true, true, true, true, true, true, true, true, true, true, true, true, false, false] rfl rfl (any_of HT_.out (by kernel_rfl)) (fun _ _ _ h => h) (Or.inl ⟨by rfl, ?_⟩) ?_ ?_
           rotate_left
           ·
            intro w'
            go_simp; with_reducible rfl
           rotate_left
           ·
            simp only [Act.put, List.setIfInBounds_toArray, List.set_cons_zero, List.set_cons_succ, i64_w, i32_w]
            rfl
           refine pure_ (i := 34) (N := some 73) (v := ?_) (a' := ?_) #[true, true, true, true, true, true, true, true, true, true, true, true, true, true, true, true, true, true, true, true, true, true, true, true, true, true, true, true, true, true, true, true, true, true, true, false] rfl rfl (any_of HT_.out (by kernel_rfl)) (fun _ _ _ h => h) (Or.inl ⟨by rfl, ?_⟩) ?_ ?_
           rotate_left
           ·
            intro w'
            go_simp; with_reducible rfl
           rotate_left
           ·
            simp only [Act.put, List.setIfInBounds_toArray, List.set_cons_zero, List.set_cons_succ, i64_w, i32_w]
            rfl
           refine pure_ (i := 35) (N := some 6) (v := ?_) (a' := ?_) #[true, true, true, true, true, true, true, true, true, true, true, true, true, true, true, true, true, true, true, true, true, true, true, true, true, true, true, true, true, true, true, true, true, true, true, true] rfl rfl (any_of HT_.out (by kernel_rfl)) (fun _ _ _ h => h) (Or.inl ⟨by rfl, ?_⟩) ?_ ?_
           rotate_left
           ·
            intro w'
            go_simp; with_reducible rfl
           rotate_left
           ·
            simp only [Act.put, List.setIfInBounds_toArray, List.set_cons_zero, List.set_cons_succ, i64_w, i32_w]
            rfl
           refine done_ (done_of HT_.out (by kernel_rfl)) ?_
           try go_wp2
           go_ret
           exact ⟨by first | rfl | (simp [errW_none, errW_some] <;> rfl) | (simp only [← hji6]; first | rfl | (simp [errW_none, errW_some] <;> rfl)) | (simp [*, errW_none, errW_some] <;> rfl), by repeat (first | (with_reducible first | exact HB.out | apply lA | apply lN | apply lD | refine lS ?_ ‹_›) | exact HB.out)⟩
      ·
       rw [if_neg c17] at H
       have c17b0 : (t286 == 0) = false := beq_eq_false_iff_ne.mpr c17; have c17b1 : (t286 != 0) = true := bne_iff_ne.mpr c17
       exact absurd (H.trans (congrArg some hr_.out)) (by simp)
   ·
    rw [if_neg c8] at H
    exact absurd H (by simp)
  ·
   rw [if_neg c7] at H
   exact absurd H (by simp)
 ·
  replace c5 := Bool.eq_false_iff.mpr c5
  subst c5
  have H1 : (some false) = some r := by rw [if_neg (show ¬ (false = true) by decide)] at H; exact H
  clear H; have H := H1; clear H1
  exact absurd (H.trans (congrArg some hr_.out)) (by simp)

end Go.Proofs.Ytladlljnpmpdpaa.PSpanEnds
