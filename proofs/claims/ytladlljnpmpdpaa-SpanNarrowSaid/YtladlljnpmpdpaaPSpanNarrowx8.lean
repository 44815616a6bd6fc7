-- Written by a program of this session (a variant of the print), for this claim. Lean checks it.
import Derived.Test.YtladlljnpmpdpaaPSpanNarrowx0
import Derived.Test.YtladlljnpmpdpaaPSpanNarrowx5
import Derived.Test.YtladlljnpmpdpaaPSpanNarrowx6
import Derived.Test.YtladlljnpmpdpaaPSpanNarrowx7
namespace Go.Proofs.Ytladlljnpmpdpaa.PSpanNarrow
open Go.RowKit Go.Proofs.YtladlljnpmpdpaaW.PrintWords Go.Proofs.YtladlljnpmpdpaaW.PrintLast Go.Proofs.YtladlljnpmpdpaaW.PrintMore
attribute [local go_sem] max2_int min2_int max_two min_two max_three min_three max_four min_four   -- for this text's walks alone
attribute [local go_sem high] Go.Proofs.Ytladlljnpmpdpaa.NotLaw.not_u64 Go.Proofs.Ytladlljnpmpdpaa.NotLaw.not_u32 Go.Proofs.Ytladlljnpmpdpaa.NotLaw.not_u16 Go.Proofs.Ytladlljnpmpdpaa.NotLaw.not_u8
set_option linter.unusedVariables false
set_option linter.unusedSimpArgs false

/-! ### span_order: function 61 -/
mutual
def span_order.j0 : Nat → Int → Int → Int → Int → Int → Option (Int × Int × Int × Int × Bool)
 | 0, _, _, _, _, _ => none
 | k + 1, x0, x175000, x175001, x176000, x176001 => if x0 = 16 then ((span_same.f x175000 x175001 x176000 x176001).bind fun bt178 => (some (bt178.1, bt178.2.1, bt178.1, bt178.2.1, bt178.2.2))) else (if x0 = 80 then ((span_unlike.f k x175000 x175001 x176000 x176001).bind fun bt182 => (some (bt182.1, bt182.2.1, bt182.2.2.1, bt182.2.2.2.1, bt182.2.2.2.2))) else (if x0 = 160 then (span_order.j1 k x0 x0 (x0 == 160) x175000 x175001 x176000 x176001) else (span_order.j1 k x0 x0 (x0 == 176) x175000 x175001 x176000 x176001)))
def span_order.j1 : Nat → Int → Int → Bool → Int → Int → Int → Int → Option (Int × Int × Int × Int × Bool)
 | 0, _, _, _, _, _, _, _ => none
 | k + 1, x0, x33, x53, x175000, x175001, x176000, x176001 => if x53 = true then ((span_less.f x175000 x175001 x176000 x176001 (x0 == 176)).bind fun bt187 => (some (bt187.1, bt187.2.1, bt187.2.2.1, bt187.2.2.2.1, bt187.2.2.2.2))) else (if x33 = 32 then ((span_less.f x176000 x176001 x175000 x175001 (x0 == 48)).bind fun bt192 => (some (bt192.2.2.1, bt192.2.2.2.1, bt192.1, bt192.2.1, bt192.2.2.2.2))) else (if x33 = 48 then ((span_less.f x176000 x176001 x175000 x175001 (x0 == 48)).bind fun bt199 => (some (bt199.2.2.1, bt199.2.2.2.1, bt199.1, bt199.2.1, bt199.2.2.2.2))) else (if x175001 > 0 then (some (x175000, x175001, x176000, x176001, decide (x176001 > 0))) else (some (x175000, x175001, x176000, x176001, false)))))
end
def span_order.f (k : Nat) (a0 : Int) (a1 : Bool) (a2_0 : Int) (a2_1 : Int) (a3_0 : Int) (a3_1 : Int) : Option (Int × Int × Int × Int × Bool) := if a1 = true then (span_order.j0 k a0 a2_0 a2_1 a3_0 a3_1) else (if a0 = 16 then (span_order.j0 k 80 a2_0 a2_1 a3_0 a3_1) else (if a0 = 80 then (span_order.j0 k 16 a2_0 a2_1 a3_0 a3_1) else (if a0 = 32 then (span_order.j0 k 176 a2_0 a2_1 a3_0 a3_1) else (if a0 = 176 then (span_order.j0 k 32 a2_0 a2_1 a3_0 a3_1) else (if a0 = 48 then (span_order.j0 k 160 a2_0 a2_1 a3_0 a3_1) else (if a0 = 160 then (span_order.j0 k 48 a2_0 a2_1 a3_0 a3_1) else (some (a2_0, a2_1, a3_0, a3_1, true))))))))
theorem span_order.mono_l : ∀ k, (∀ y0 y1 y2 y3 y4, LeO (span_order.j0 k y0 y1 y2 y3 y4) (span_order.j0 (k + 1) y0 y1 y2 y3 y4)) ∧ (∀ y0 y1 y2 y3 y4 y5 y6, LeO (span_order.j1 k y0 y1 y2 y3 y4 y5 y6) (span_order.j1 (k + 1) y0 y1 y2 y3 y4 y5 y6))
 | 0 => ⟨fun _ _ _ _ _ r h => by simp [span_order.j0] at h, fun _ _ _ _ _ _ _ r h => by simp [span_order.j1] at h⟩
 | k + 1 => by
  obtain ⟨ih0, ih1⟩ := span_order.mono_l k
  refine ⟨?_, ?_⟩
  ·
   intro y0 y1 y2 y3 y4
   unfold span_order.j0
   repeat' first
   | (with_reducible exact ih0 _ _ _ _ _)
   | (with_reducible exact ih1 _ _ _ _ _ _ _)
   | (with_reducible exact span_unlike.mono _ _ _ _ _)
   | (with_reducible exact LeO.refl _)
   | (with_reducible exact LeO.none _)
   | (with_reducible refine LeO.ite ?_ ?_)
   | (with_reducible refine LeO.bind ?_ (fun _ => ?_))
   | exact ih0 _ _ _ _ _
   | exact ih1 _ _ _ _ _ _ _
   | exact span_unlike.mono _ _ _ _ _
   | exact LeO.none _
   | refine LeO.ite ?_ ?_
   | refine LeO.bind ?_ (fun _ => ?_)
  ·
   intro y0 y1 y2 y3 y4 y5 y6
   unfold span_order.j1
   repeat' first
   | (with_reducible exact ih0 _ _ _ _ _)
   | (with_reducible exact ih1 _ _ _ _ _ _ _)
   | (with_reducible exact span_unlike.mono _ _ _ _ _)
   | (with_reducible exact LeO.refl _)
   | (with_reducible exact LeO.none _)
   | (with_reducible refine LeO.ite ?_ ?_)
   | (with_reducible refine LeO.bind ?_ (fun _ => ?_))
   | exact ih0 _ _ _ _ _
   | exact ih1 _ _ _ _ _ _ _
   | exact span_unlike.mono _ _ _ _ _
   | exact LeO.none _
   | refine LeO.ite ?_ ?_
   | refine LeO.bind ?_ (fun _ => ?_)
theorem span_order.mono : ∀ a0 a1 a2 a3 a4 a5 k, LeO (span_order.f k a0 a1 a2 a3 a4 a5) (span_order.f (k + 1) a0 a1 a2 a3 a4 a5) := by
 intro a0 a1 a2 a3 a4 a5 k
 obtain ⟨ih0, ih1⟩ := span_order.mono_l k
 unfold span_order.f
 repeat' first
   | (with_reducible exact ih0 _ _ _ _ _)
   | (with_reducible exact ih1 _ _ _ _ _ _ _)
   | (with_reducible exact span_unlike.mono _ _ _ _ _)
   | (with_reducible exact LeO.refl _)
   | (with_reducible exact LeO.none _)
   | (with_reducible refine LeO.ite ?_ ?_)
   | (with_reducible refine LeO.bind ?_ (fun _ => ?_))
   | exact ih0 _ _ _ _ _
   | exact ih1 _ _ _ _ _ _ _
   | exact span_unlike.mono _ _ _ _ _
   | exact LeO.none _
   | refine LeO.ite ?_ ?_
   | refine LeO.bind ?_ (fun _ => ?_)
def span_order.T29 : Bool × List (List Nat × List Nat) := (true, [([], []), ([], []), ([], []), ([2], [2]), ([3], [3]), ([4], [4]), ([5], [5]), ([6, 5], [5, 6]), ([7, 5], [5, 7]), ([5, 8], [5, 8]), ([0, 5, 0], [0]), ([1, 10, 0, 1, 10], [1]), ([9, 11, 0, 1, 2, 3, 4, 5, 6, 7, 8, 9, 10, 11], [9])])
def span_order.B29 : List Nat := [0, 0, 0, 4, 12, 28, 60, 124, 252, 508, 61, 1087, 4095]
theorem span_order.tab29 : rtab .any (opsOf Try.f61 29) = span_order.T29 := by kernel_rfl
theorem span_order.bits29 : waitsOk span_order.T29.2 span_order.B29 = true := by kernel_rfl
set_option maxHeartbeats 8000000 in
set_option maxRecDepth 100000 in
theorem span_order.calls (k : Nat) (a0 : Int) (a1 : Bool) (a2_0 : Int) (a2_1 : Int) (a3_0 : Int) (a3_1 : Int) (r1 : Int) (r2 : Int) (r3 : Int) (r4 : Int) (r5 : Bool) (w : World) (h : span_order.f k a0 a1 a2_0 a2_1 a3_0 a3_1 = some (r1, r2, r3, r4, r5)) :
  Calls Try.prog 61 #[.int .i64 a0, .bool a1, .agg #[.int .u64 a2_0, .int .u64 a2_1], .agg #[.int .u64 a3_0, .int .u64 a3_1]] w fun e w' => e = .returned (.tuple #[.agg #[.int .u64 r1, .int .u64 r2], .agg #[.int .u64 r3, .int .u64 r4], .bool r5]) ∧ Below w.heap.size w w' := by
 have hu58 := Try.underlying58
 have HB := Aside0.mk (Below.refl w.heap.size w)
 have H : (if a1 = true then (span_order.j0 k a0 a2_0 a2_1 a3_0 a3_1) else (if a0 = 16 then (span_order.j0 k 80 a2_0 a2_1 a3_0 a3_1) else (if a0 = 80 then (span_order.j0 k 16 a2_0 a2_1 a3_0 a3_1) else (if a0 = 32 then (span_order.j0 k 176 a2_0 a2_1 a3_0 a3_1) else (if a0 = 176 then (span_order.j0 k 32 a2_0 a2_1 a3_0 a3_1) else (if a0 = 48 then (span_order.j0 k 160 a2_0 a2_1 a3_0 a3_1) else (if a0 = 160 then (span_order.j0 k 48 a2_0 a2_1 a3_0 a3_1) else (some (a2_0, a2_1, a3_0, a3_1, true))))))))) = some (r1, r2, r3, r4, r5) := h
 clear h
 have HC5 := Aside0.mk H
 clear H
 go_enter Try.func61, Try.ntmps61
 go_upto_if 17 with (first | ((with_reducible refine gate_dst (N := 6) rfl ?_); refine box_event ?hg (N := 6) ?hd (cs := #[.int .u64 a2_0, .int .u64 a2_1]) (t := 58) ?hr ?_; (case hd => rfl); (case hg => rfl); (case hr => first | (go_simp; done) | (go_simp; rfl)); intro gb174 hg w6 hbox hb; have n0_ := Aside0.mk (below_step (by repeat (first | (with_reducible first | exact HB.out | apply lA | apply lN | apply lD) | exact HB.out)) hb); have n1_ := Aside0.mk (hbox); have n2_ := Aside0.mk ((by rw [hg]; exact (below_size (by repeat (first | (with_reducible first | exact HB.out | apply lA | apply lN | apply lD) | exact HB.out))) : w.heap.size ≤ gb174)); have n3_ := n2_; clear HB; have HB := n0_; have BK174 := n1_; have GW174 := n2_; have GE174 := n3_; clear n0_ n1_ n2_ n3_; clear hb hbox hg) | ((with_reducible refine gate_dst (N := 7) rfl ?_); refine box_event ?hg (N := 7) ?hd (cs := #[.int .u64 a3_0, .int .u64 a3_1]) (t := 58) ?hr ?_; (case hd => rfl); (case hg => rfl); (case hr => first | (go_simp; done) | (go_simp; rfl)); intro gb175 hg w7 hbox hb; have n0_ := Aside0.mk (blk_below (g := gb174) (o := .cells #[.int .u64 a2_0, .int .u64 a2_1] 58 (0, 0)) (by (with_reducible repeat (first | apply bN | apply bD | apply bA)); exact BK174.out) hb); have n1_ := Aside0.mk (below_step (by repeat (first | (with_reducible first | exact HB.out | apply lA | apply lN | apply lD | refine lS ?_ ‹_›) | exact HB.out)) hb); have n2_ := Aside0.mk (hbox); have n3_ := Aside0.mk ((by rw [hg]; exact (below_size (by repeat (first | (with_reducible first | exact HB.out | apply lA | apply lN | apply lD | refine lS ?_ ‹_›) | exact HB.out))) : w.heap.size ≤ gb175)); have n4_ := n3_; have n5_ := Aside0.mk ((by rw [hg]; exact Nat.ne_of_lt (blk_lt (g := gb174) (o := .cells #[.int .u64 a2_0, .int .u64 a2_1] 58 (0, 0)) (by (with_reducible repeat (first | apply bN | apply bD | apply bA)); exact BK174.out)) : gb174 ≠ gb175)); have n6_ := sy n5_; clear BK174; clear HB; have BK174 := n0_; have HB := n1_; have BK175 := n2_; have GW175 := n3_; have GE175 := n4_; have NB174_175 := n5_; have NB175_174 := n6_; clear n0_ n1_ n2_ n3_ n4_ n5_ n6_; clear hb hbox hg) | ((with_reducible refine gate_dst (N := 8) rfl ?_); refine box_event ?hg (N := 8) ?hd (cs := #[.int .u64 0, .int .u64 0]) (t := 58) ?hr ?_; (case hd => rfl); (case hg => rfl); (case hr => first | (go_simp; done) | (go_simp; rfl)); intro gb176 hg w8 hbox hb; have n0_ := Aside0.mk (blk_below (g := gb174) (o := .cells #[.int .u64 a2_0, .int .u64 a2_1] 58 (0, 0)) (by (with_reducible repeat (first | apply bN | apply bD | apply bA)); exact BK174.out) hb); have n1_ := Aside0.mk (blk_below (g := gb175) (o := .cells #[.int .u64 a3_0, .int .u64 a3_1] 58 (0, 0)) (by (with_reducible repeat (first | apply bN | apply bD | apply bA)); exact BK175.out) hb); have n2_ := Aside0.mk (below_step (by repeat (first | (with_reducible first | exact HB.out | apply lA | apply lN | apply lD | refine lS ?_ ‹_›) | exact HB.out)) hb); have n3_ := Aside0.mk (hbox); have n4_ := Aside0.mk ((by rw [hg]; exact (below_size (by repeat (first | (with_reducible first | exact HB.out | apply lA | apply lN | apply lD | refine lS ?_ ‹_›) | exact HB.out))) : w.heap.size ≤ gb176)); have n5_ := n4_; have n6_ := Aside0.mk ((by rw [hg]; exact Nat.ne_of_lt (blk_lt (g := gb174) (o := .cells #[.int .u64 a2_0, .int .u64 a2_1] 58 (0, 0)) (by (with_reducible repeat (first | apply bN | apply bD | apply bA)); exact BK174.out)) : gb174 ≠ gb176)); have n7_ := sy n6_; have n8_ := Aside0.mk ((by rw [hg]; exact Nat.ne_of_lt (blk_lt (g := gb175) (o := .cells #[.int .u64 a3_0, .int .u64 a3_1] 58 (0, 0)) (by (with_reducible repeat (first | apply bN | apply bD | apply bA)); exact BK175.out)) : gb175 ≠ gb176)); have n9_ := sy n8_; clear BK174; clear BK175; clear HB; have BK174 := n0_; have BK175 := n1_; have HB := n2_; have BK176 := n3_; have GW176 := n4_; have GE176 := n5_; have NB174_176 := n6_; have NB176_174 := n7_; have NB175_176 := n8_; have NB176_175 := n9_; clear n0_ n1_ n2_ n3_ n4_ n5_ n6_ n7_ n8_ n9_; clear hb hbox hg) | ((with_reducible refine gate_dst (N := 9) rfl ?_); refine box_event ?hg (N := 9) ?hd (cs := #[.int .u64 0, .int .u64 0]) (t := 58) ?hr ?_; (case hd => rfl); (case hg => rfl); (case hr => first | (go_simp; done) | (go_simp; rfl)); intro gb177 hg w9 hbox hb; have n0_ := Aside0.mk (blk_below (g := gb174) (o := .cells #[.int .u64 a2_0, .int .u64 a2_1] 58 (0, 0)) (by (with_reducible repeat (first | apply bN | apply bD | apply bA)); exact BK174.out) hb); have n1_ := Aside0.mk (blk_below (g := gb175) (o := .cells #[.int .u64 a3_0, .int .u64 a3_1] 58 (0, 0)) (by (with_reducible repeat (first | apply bN | apply bD | apply bA)); exact BK175.out) hb); have n2_ := Aside0.mk (blk_below (g := gb176) (o := .cells #[.int .u64 0, .int .u64 0] 58 (0, 0)) (by (with_reducible repeat (first | apply bN | apply bD | apply bA)); exact BK176.out) hb); have n3_ := Aside0.mk (below_step (by repeat (first | (with_reducible first | exact HB.out | apply lA | apply lN | apply lD | refine lS ?_ ‹_›) | exact HB.out)) hb); have n4_ := Aside0.mk (hbox); have n5_ := Aside0.mk ((by rw [hg]; exact (below_size (by repeat (first | (with_reducible first | exact HB.out | apply lA | apply lN | apply lD | refine lS ?_ ‹_›) | exact HB.out))) : w.heap.size ≤ gb177)); have n6_ := n5_; have n7_ := Aside0.mk ((by rw [hg]; exact Nat.ne_of_lt (blk_lt (g := gb174) (o := .cells #[.int .u64 a2_0, .int .u64 a2_1] 58 (0, 0)) (by (with_reducible repeat (first | apply bN | apply bD | apply bA)); exact BK174.out)) : gb174 ≠ gb177)); have n8_ := sy n7_; have n9_ := Aside0.mk ((by rw [hg]; exact Nat.ne_of_lt (blk_lt (g := gb175) (o := .cells #[.int .u64 a3_0, .int .u64 a3_1] 58 (0, 0)) (by (with_reducible repeat (first | apply bN | apply bD | apply bA)); exact BK175.out)) : gb175 ≠ gb177)); have n10_ := sy n9_; have n11_ := Aside0.mk ((by rw [hg]; exact Nat.ne_of_lt (blk_lt (g := gb176) (o := .cells #[.int .u64 0, .int .u64 0] 58 (0, 0)) (by (with_reducible repeat (first | apply bN | apply bD | apply bA)); exact BK176.out)) : gb176 ≠ gb177)); have n12_ := sy n11_; clear BK174; clear BK175; clear BK176; clear HB; have BK174 := n0_; have BK175 := n1_; have BK176 := n2_; have HB := n3_; have BK177 := n4_; have GW177 := n5_; have GE177 := n6_; have NB174_177 := n7_; have NB177_174 := n8_; have NB175_177 := n9_; have NB177_175 := n10_; have NB176_177 := n11_; have NB177_176 := n12_; clear n0_ n1_ n2_ n3_ n4_ n5_ n6_ n7_ n8_ n9_ n10_ n11_ n12_; clear hb hbox hg))
 (try simp only [Act.put, List.setIfInBounds_toArray, List.set_cons_zero, List.set_cons_succ])
 go_cut [0] (fun v0 wc => ∃ (kq : Nat) (x0_4 : Int) (x177000_4 : Int) (x177001_4 : Int) (x178000_4 : Int) (x178001_4 : Int), v0 = .int .i64 x0_4 ∧ Aside0 (span_order.j0 kq x0_4 a2_0 a2_1 a3_0 a3_1 = some (r1, r2, r3, r4, r5)) ∧ Aside0 (kq ≤ k) ∧ Aside0 (wc.heap[gb174]? = some (.cells #[.int .u64 a2_0, .int .u64 a2_1] 58 (0, 0))) ∧ Aside0 (wc.heap[gb175]? = some (.cells #[.int .u64 a3_0, .int .u64 a3_1] 58 (0, 0))) ∧ Aside0 (wc.heap[gb176]? = some (.cells #[.int .u64 x177000_4, .int .u64 x177001_4] 58 (0, 0))) ∧ Aside0 (wc.heap[gb177]? = some (.cells #[.int .u64 x178000_4, .int .u64 x178001_4] 58 (0, 0))) ∧ Aside0 (Below w.heap.size w wc))
 case first =>
  have H := HC5.out
  clear HC5
  by_cases c10 : a1 = true
  ·
   subst c10
   have H1 : (span_order.j0 k a0 a2_0 a2_1 a3_0 a3_1) = some (r1, r2, r3, r4, r5) := by rw [if_pos rfl] at H; exact H
   clear H; have H := H1; clear H1
   have H' := Aside0.mk H
   clear H
   go_wp2
   go_meet
   case rel => exact ⟨_, (a0), (0), (0), (0), (0), (by first | rfl | (simp; done) | (simp [*]; done)), H', ⟨by first | omega | exact Nat.le_refl _⟩, ⟨by (with_reducible repeat (first | apply bN | apply bD | apply bA)); exact BK174.out⟩, ⟨by (with_reducible repeat (first | apply bN | apply bD | apply bA)); exact BK175.out⟩, ⟨by (with_reducible repeat (first | apply bN | apply bD | apply bA)); exact BK176.out⟩, ⟨by (with_reducible repeat (first | apply bN | apply bD | apply bA)); exact BK177.out⟩, ⟨by repeat (first | (with_reducible first | exact HB.out | apply lA | apply lN | apply lD | refine lS ?_ ‹_›) | exact HB.out)⟩⟩
  ·
   replace c10 := Bool.eq_false_iff.mpr c10
   subst c10
   have H1 : (if a0 = 16 then (span_order.j0 k 80 a2_0 a2_1 a3_0 a3_1) else (if a0 = 80 then (span_order.j0 k 16 a2_0 a2_1 a3_0 a3_1) else (if a0 = 32 then (span_order.j0 k 176 a2_0 a2_1 a3_0 a3_1) else (if a0 = 176 then (span_order.j0 k 32 a2_0 a2_1 a3_0 a3_1) else (if a0 = 48 then (span_order.j0 k 160 a2_0 a2_1 a3_0 a3_1) else (if a0 = 160 then (span_order.j0 k 48 a2_0 a2_1 a3_0 a3_1) else (some (a2_0, a2_1, a3_0, a3_1, true)))))))) = some (r1, r2, r3, r4, r5) := by rw [if_neg (show ¬ (false = true) by decide)] at H; exact H
   clear H; have H := H1; clear H1
   by_cases c11 : a0 = 16
   ·
    rw [if_pos c11] at H
    have c11b0 : (a0 == 16) = true := beq_iff_eq.mpr c11; have c11b1 : (a0 != 16) = false := bne_eq_false_iff_eq.mpr c11; clear c11
    (first | rw [c11b0] | (simp only [i64_w, i32_w]; rw [c11b0]) | skip)
    have H' := Aside0.mk H
    clear H
    go_wp2
    go_meet
    case rel => exact ⟨_, (80), (0), (0), (0), (0), (by first | rfl | (simp; done) | (simp [*]; done)), H', ⟨by first | omega | exact Nat.le_refl _⟩, ⟨by (with_reducible repeat (first | apply bN | apply bD | apply bA)); exact BK174.out⟩, ⟨by (with_reducible repeat (first | apply bN | apply bD | apply bA)); exact BK175.out⟩, ⟨by (with_reducible repeat (first | apply bN | apply bD | apply bA)); exact BK176.out⟩, ⟨by (with_reducible repeat (first | apply bN | apply bD | apply bA)); exact BK177.out⟩, ⟨by repeat (first | (with_reducible first | exact HB.out | apply lA | apply lN | apply lD | refine lS ?_ ‹_›) | exact HB.out)⟩⟩
   ·
    rw [if_neg c11] at H
    have c11b0 : (a0 == 16) = false := beq_eq_false_iff_ne.mpr c11; have c11b1 : (a0 != 16) = true := bne_iff_ne.mpr c11
    (first | rw [c11b0] | (simp only [i64_w, i32_w]; rw [c11b0]) | skip)
    by_cases c12 : a0 = 80
    ·
     rw [if_pos c12] at H
     have c12b0 : (a0 == 80) = true := beq_iff_eq.mpr c12; have c12b1 : (a0 != 80) = false := bne_eq_false_iff_eq.mpr c12; clear c12
     have H' := Aside0.mk H
     clear H
     go_wp2
     go_meet
     case rel => exact ⟨_, (16), (0), (0), (0), (0), (by first | rfl | (simp; done) | (simp [*]; done)), H', ⟨by first | omega | exact Nat.le_refl _⟩, ⟨by (with_reducible repeat (first | apply bN | apply bD | apply bA)); exact BK174.out⟩, ⟨by (with_reducible repeat (first | apply bN | apply bD | apply bA)); exact BK175.out⟩, ⟨by (with_reducible repeat (first | apply bN | apply bD | apply bA)); exact BK176.out⟩, ⟨by (with_reducible repeat (first | apply bN | apply bD | apply bA)); exact BK177.out⟩, ⟨by repeat (first | (with_reducible first | exact HB.out | apply lA | apply lN | apply lD | refine lS ?_ ‹_›) | exact HB.out)⟩⟩
    ·
     rw [if_neg c12] at H
     have c12b0 : (a0 == 80) = false := beq_eq_false_iff_ne.mpr c12; have c12b1 : (a0 != 80) = true := bne_iff_ne.mpr c12
     by_cases c13 : a0 = 32
     ·
      rw [if_pos c13] at H
      have c13b0 : (a0 == 32) = true := beq_iff_eq.mpr c13; have c13b1 : (a0 != 32) = false := bne_eq_false_iff_eq.mpr c13; clear c13
      have H' := Aside0.mk H
      clear H
      go_wp2
      go_meet
      case rel => exact ⟨_, (176), (0), (0), (0), (0), (by first | rfl | (simp; done) | (simp [*]; done)), H', ⟨by first | omega | exact Nat.le_refl _⟩, ⟨by (with_reducible repeat (first | apply bN | apply bD | apply bA)); exact BK174.out⟩, ⟨by (with_reducible repeat (first | apply bN | apply bD | apply bA)); exact BK175.out⟩, ⟨by (with_reducible repeat (first | apply bN | apply bD | apply bA)); exact BK176.out⟩, ⟨by (with_reducible repeat (first | apply bN | apply bD | apply bA)); exact BK177.out⟩, ⟨by repeat (first | (with_reducible first | exact HB.out | apply lA | apply lN | apply lD | refine lS ?_ ‹_›) | exact HB.out)⟩⟩
     ·
      rw [if_neg c13] at H
      have c13b0 : (a0 == 32) = false := beq_eq_false_iff_ne.mpr c13; have c13b1 : (a0 != 32) = true := bne_iff_ne.mpr c13
      by_cases c14 : a0 = 176
      ·
       rw [if_pos c14] at H
       have c14b0 : (a0 == 176) = true := beq_iff_eq.mpr c14; have c14b1 : (a0 != 176) = false := bne_eq_false_iff_eq.mpr c14; clear c14
       have H' := Aside0.mk H
       clear H
       go_wp2
       go_meet
       case rel => exact ⟨_, (32), (0), (0), (0), (0), (by first | rfl | (simp; done) | (simp [*]; done)), H', ⟨by first | omega | exact Nat.le_refl _⟩, ⟨by (with_reducible repeat (first | apply bN | apply bD | apply bA)); exact BK174.out⟩, ⟨by (with_reducible repeat (first | apply bN | apply bD | apply bA)); exact BK175.out⟩, ⟨by (with_reducible repeat (first | apply bN | apply bD | apply bA)); exact BK176.out⟩, ⟨by (with_reducible repeat (first | apply bN | apply bD | apply bA)); exact BK177.out⟩, ⟨by repeat (first | (with_reducible first | exact HB.out | apply lA | apply lN | apply lD | refine lS ?_ ‹_›) | exact HB.out)⟩⟩
      ·
       rw [if_neg c14] at H
       have c14b0 : (a0 == 176) = false := beq_eq_false_iff_ne.mpr c14; have c14b1 : (a0 != 176) = true := bne_iff_ne.mpr c14
       by_cases c15 : a0 = 48
       ·
        rw [if_pos c15] at H
        have c15b0 : (a0 == 48) = true := beq_iff_eq.mpr c15; have c15b1 : (a0 != 48) = false := bne_eq_false_iff_eq.mpr c15; clear c15
        have H' := Aside0.mk H
        clear H
        go_wp2
        go_meet
        case rel => exact ⟨_, (160), (0), (0), (0), (0), (by first | rfl | (simp; done) | (simp [*]; done)), H', ⟨by first | omega | exact Nat.le_refl _⟩, ⟨by (with_reducible repeat (first | apply bN | apply bD | apply bA)); exact BK174.out⟩, ⟨by (with_reducible repeat (first | apply bN | apply bD | apply bA)); exact BK175.out⟩, ⟨by (with_reducible repeat (first | apply bN | apply bD | apply bA)); exact BK176.out⟩, ⟨by (with_reducible repeat (first | apply bN | apply bD | apply bA)); exact BK177.out⟩, ⟨by repeat (first | (with_reducible first | exact HB.out | apply lA | apply lN | apply lD | refine lS ?_ ‹_›) | exact HB.out)⟩⟩
       ·
        rw [if_neg c15] at H
        have c15b0 : (a0 == 48) = false := beq_eq_false_iff_ne.mpr c15; have c15b1 : (a0 != 48) = true := bne_iff_ne.mpr c15
        by_cases c16 : a0 = 160
        ·
         rw [if_pos c16] at H
         have c16b0 : (a0 == 160) = true := beq_iff_eq.mpr c16; have c16b1 : (a0 != 160) = false := bne_eq_false_iff_eq.mpr c16; clear c16
         have H' := Aside0.mk H
         clear H
         go_wp2
         go_meet
         case rel => exact ⟨_, (48), (0), (0), (0), (0), (by first | rfl | (simp; done) | (simp [*]; done)), H', ⟨by first | omega | exact Nat.le_refl _⟩, ⟨by (with_reducible repeat (first | apply bN | apply bD | apply bA)); exact BK174.out⟩, ⟨by (with_reducible repeat (first | apply bN | apply bD | apply bA)); exact BK175.out⟩, ⟨by (with_reducible repeat (first | apply bN | apply bD | apply bA)); exact BK176.out⟩, ⟨by (with_reducible repeat (first | apply bN | apply bD | apply bA)); exact BK177.out⟩, ⟨by repeat (first | (with_reducible first | exact HB.out | apply lA | apply lN | apply lD | refine lS ?_ ‹_›) | exact HB.out)⟩⟩
        ·
         rw [if_neg c16] at H
         have c16b0 : (a0 == 160) = false := beq_eq_false_iff_ne.mpr c16; have c16b1 : (a0 != 160) = true := bne_iff_ne.mpr c16; simp only [Option.some.injEq, Prod.mk.injEq] at H; obtain ⟨rfl, rfl, rfl, rfl, rfl⟩ := H
         try go_wp2
         have n0_ := Aside0.mk (blk_drew BK174.out); have n1_ := Aside0.mk (blk_drew BK175.out); have n2_ := Aside0.mk (blk_drew BK176.out); have n3_ := Aside0.mk (blk_drew BK177.out)
         have n4_ := Aside0.mk (below_drew1 HB.out)
         clear BK174; clear BK175; clear BK176; clear BK177; clear HB; have BK174 := n0_; have BK175 := n1_; have BK176 := n2_; have BK177 := n3_; have HB := n4_; clear n0_ n1_ n2_ n3_ n4_
         refine start_ (n := 5) (S := fun w' => w'.cell? ⟨gb174, 0, none⟩ = some (.int .u64 a2_0) ∧ w'.cell? ⟨gb174, 1, none⟩ = some (.int .u64 a2_1) ∧ w'.cell? ⟨gb175, 0, none⟩ = some (.int .u64 a3_0) ∧ w'.cell? ⟨gb175, 1, none⟩ = some (.int .u64 a3_1)) (ds := []) #[false, false, false, false, false] (by kernel_rfl) rfl rfl ⟨(blk_cell BK174.out 0).trans rfl, (blk_cell BK174.out 1).trans rfl, (blk_cell BK175.out 0).trans rfl, (blk_cell BK175.out 1).trans rfl⟩ (fun hHeld => ?_)
         generalize w9.drew = w17 at BK174 BK175 BK176 BK177 HB hHeld ⊢
         refine take_ (i := 0) (N := some 19) (v := ?_) (a' := ?_) #[true, false, false, false, false] rfl rfl (by kernel_rfl) (fun _ _ _ h => h) (Or.inl ⟨by rfl, ?_⟩) hHeld ?_ ?_
         rotate_left
         ·
          rintro w' ⟨s0, s1, s2, s3⟩
          go_simp; with_reducible rfl
         rotate_left
         ·
          simp only [Act.put, List.setIfInBounds_toArray, List.set_cons_zero, List.set_cons_succ, i64_w, i32_w]
          rfl
         refine take_ (i := 1) (N := some 20) (v := ?_) (a' := ?_) #[true, true, false, false, false] rfl rfl (by kernel_rfl) (fun _ _ _ h => h) (Or.inl ⟨by rfl, ?_⟩) hHeld ?_ ?_
         rotate_left
         ·
          rintro w' ⟨s0, s1, s2, s3⟩
          go_simp; with_reducible rfl
         rotate_left
         ·
          simp only [Act.put, List.setIfInBounds_toArray, List.set_cons_zero, List.set_cons_succ, i64_w, i32_w]
          rfl
         refine one_ (i := 2) (N := none) #[true, true, true, false, false] rfl rfl (by kernel_rfl) (by decide) (fun K hK => ?_)
         have hs18 : w17.cell? ⟨gb176, 0, none⟩ = some (.int .u64 0) := (blk_cell BK176.out 0).trans rfl
         have hfs18 := blk_frozen BK176.out 0
         have hns18_0 := NB174_176.out
         have hns18_1 := NB175_176.out
         have hns18_3 := NB177_176.out
         have hms18_0 := NB176_174.out
         have hms18_1 := NB176_175.out
         have hms18_3 := NB176_177.out
         have hs19 : w17.cell? ⟨gb176, 1, none⟩ = some (.int .u64 0) := (blk_cell BK176.out 1).trans rfl
         have hfs19 := blk_frozen BK176.out 1
         have hns19_0 := NB174_176.out
         have hns19_1 := NB175_176.out
         have hns19_3 := NB177_176.out
         have hms19_0 := NB176_174.out
         have hms19_1 := NB176_175.out
         have hms19_3 := NB176_177.out
         refine skip_ (w1 := ?_) (by rfl) rfl ?_ ?_
         rotate_left
         ·
          go_simp
          rfl
         refine hK.out _ _ ⟨((cell_far (p := ⟨gb176, _, none⟩) NB174_176.out _).trans (((cell_far (p := ⟨gb176, _, none⟩) NB174_176.out _).trans (hHeld.1)))), ((cell_far (p := ⟨gb176, _, none⟩) NB174_176.out _).trans (((cell_far (p := ⟨gb176, _, none⟩) NB174_176.out _).trans (hHeld.2.1)))), ((cell_far (p := ⟨gb176, _, none⟩) NB175_176.out _).trans (((cell_far (p := ⟨gb176, _, none⟩) NB175_176.out _).trans (hHeld.2.2.1)))), ((cell_far (p := ⟨gb176, _, none⟩) NB175_176.out _).trans (((cell_far (p := ⟨gb176, _, none⟩) NB175_176.out _).trans (hHeld.2.2.2))))⟩ (fun hHeld => ?_)
         clear hK K
         refine one_ (i := 3) (N := none) #[true, true, true, true, false] rfl rfl (by kernel_rfl) (by decide) (fun K hK => ?_)
         have hs20 : w17.cell? ⟨gb177, 0, none⟩ = some (.int .u64 0) := (blk_cell BK177.out 0).trans rfl
         have hfs20 := blk_frozen BK177.out 0
         have hns20_0 := NB174_177.out
         have hns20_1 := NB175_177.out
         have hns20_2 := NB176_177.out
         have hms20_0 := NB177_174.out
         have hms20_1 := NB177_175.out
         have hms20_2 := NB177_176.out
         have hs21 : w17.cell? ⟨gb177, 1, none⟩ = some (.int .u64 0) := (blk_cell BK177.out 1).trans rfl
         have hfs21 := blk_frozen BK177.out 1
         have hns21_0 := NB174_177.out
         have hns21_1 := NB175_177.out
         have hns21_2 := NB176_177.out
         have hms21_0 := NB177_174.out
         have hms21_1 := NB177_175.out
         have hms21_2 := NB177_176.out
         refine skip_ (w1 := ?_) (by rfl) rfl ?_ ?_
         rotate_left
         ·
          go_simp
          rfl
         refine hK.out _ _ ⟨((cell_far (p := ⟨gb177, _, none⟩) NB174_177.out _).trans (((cell_far (p := ⟨gb177, _, none⟩) NB174_177.out _).trans (hHeld.1)))), ((cell_far (p := ⟨gb177, _, none⟩) NB174_177.out _).trans (((cell_far (p := ⟨gb177, _, none⟩) NB174_177.out _).trans (hHeld.2.1)))), ((cell_far (p := ⟨gb177, _, none⟩) NB175_177.out _).trans (((cell_far (p := ⟨gb177, _, none⟩) NB175_177.out _).trans (hHeld.2.2.1)))), ((cell_far (p := ⟨gb177, _, none⟩) NB175_177.out _).trans (((cell_far (p := ⟨gb177, _, none⟩) NB175_177.out _).trans (hHeld.2.2.2))))⟩ (fun hHeld => ?_)
         clear hK K
         refine pure_ (i := 4) (N := some 10) (v := ?_) (a' := ?_) #[true, true, true, true, true] rfl rfl (by kernel_rfl) (fun _ _ _ h => h) (Or.inl ⟨by rfl, ?_⟩) ?_ ?_
         rotate_left
         ·
          intro w'
          go_simp; with_reducible rfl
         rotate_left
         ·
          simp only [Act.put, List.setIfInBounds_toArray, List.set_cons_zero, List.set_cons_succ, i64_w, i32_w]
          rfl
         refine done_ (by kernel_rfl) ?_
         try go_wp2
         refine bodyPost_ret (results_list (rs := [.cell 8 58, .cell 9 58, .tmp 10]) rfl (by simp) (.cell gb176 58 #[.int .u64 a2_0, .int .u64 a2_1] (0, 0) _ rfl (by (with_reducible repeat (first | apply bN | apply bD | apply bA)); refine blk_far ?_ NB176_177.out _; (with_reducible repeat (first | apply bN | apply bD | apply bA)); refine blk_far ?_ NB176_177.out _; (with_reducible repeat (first | apply bN | apply bD | apply bA)); refine blk_put (cs := #[.int .u64 a2_0, .int .u64 0]) ?_ 1 _ rfl; (with_reducible repeat (first | apply bN | apply bD | apply bA)); refine blk_put (cs := #[.int .u64 0, .int .u64 0]) ?_ 0 _ rfl; (with_reducible repeat (first | apply bN | apply bD | apply bA)); exact BK176.out) Try.underlying58 rfl (by kernel_rfl) (.cell gb177 58 #[.int .u64 a3_0, .int .u64 a3_1] (0, 0) _ rfl (by (with_reducible repeat (first | apply bN | apply bD | apply bA)); refine blk_put (cs := #[.int .u64 a3_0, .int .u64 0]) ?_ 1 _ rfl; (with_reducible repeat (first | apply bN | apply bD | apply bA)); refine blk_put (cs := #[.int .u64 0, .int .u64 0]) ?_ 0 _ rfl; (with_reducible repeat (first | apply bN | apply bD | apply bA)); refine blk_far ?_ NB177_176.out _; (with_reducible repeat (first | apply bN | apply bD | apply bA)); refine blk_far ?_ NB177_176.out _; (with_reducible repeat (first | apply bN | apply bD | apply bA)); exact BK177.out) Try.underlying58 rfl (by kernel_rfl) (.tmp .nil)))) rfl ?_
         exact ⟨by first | rfl | (simp [errW_none, errW_some] <;> rfl) | (simp [*, errW_none, errW_some] <;> rfl), by repeat (first | (with_reducible first | exact HB.out | apply lA | apply lN | apply lD | refine lS ?_ ‹_›) | exact HB.out)⟩
 case rest =>
  clear HC5
  try clear c1
  try clear p2
  try clear c6
  try clear c10
  try clear c11
  try clear c11b0
  try clear c11b1
  try clear c12
  try clear c12b0
  try clear c12b1
  try clear c13
  try clear c13b0
  try clear c13b1
  try clear c14
  try clear c14b0
  try clear c14b1
  try clear c15
  try clear c15b0
  try clear c15b1
  try clear c16
  try clear c16b0
  try clear c16b1
  obtain ⟨kq, x0_4, x177000_4, x177001_4, x178000_4, x178001_4, rfl, HA, HJ4, BK174, BK175, BK176, BK177, HB⟩ := hcut
  cases kq with
  | zero => exact absurd HA.out (by simp [span_order.j0])
  | succ kj4 =>
   have H := HA.out
   clear HA
   simp only [span_order.j0] at H
   by_cases c22 : x0_4 = 16
   ·
    rw [if_pos c22] at H
    have c22b0 : (x0_4 == 16) = true := beq_iff_eq.mpr c22; have c22b1 : (x0_4 != 16) = false := bne_eq_false_iff_eq.mpr c22; clear c22; replace H := Option.bind_eq_some_iff.mp H; obtain ⟨⟨t178, t179, t180⟩, A230, H⟩ := H
    replace H : (some (t178, t179, t178, t179, t180)) = some (r1, r2, r3, r4, r5) := H
    have A23 := Aside0.mk A230; clear A230; simp only [Option.some.injEq, Prod.mk.injEq] at H; obtain ⟨rfl, rfl, rfl, rfl, rfl⟩ := H; have hnb24 := NB174_175.out; have hnc24 := NB175_174.out; have hnb25 := NB174_176.out; have hnc25 := NB176_174.out; have hnb26 := NB174_177.out; have hnc26 := NB177_174.out; have hcz27_0 : wc.cell? ⟨gb174, 0, none⟩ = some (.int .u64 a2_0) := (blk_cell BK174.out 0).trans rfl; have hcz27_1 : wc.cell? ⟨gb174, 1, none⟩ = some (.int .u64 a2_1) := (blk_cell BK174.out 1).trans rfl; have hfz27_0 := blk_frozen BK174.out 0; have hfz27_1 := blk_frozen BK174.out 1; have hnb28 := NB175_176.out; have hnc28 := NB176_175.out; have hnb29 := NB175_177.out; have hnc29 := NB177_175.out; have hcz30_0 : wc.cell? ⟨gb175, 0, none⟩ = some (.int .u64 a3_0) := (blk_cell BK175.out 0).trans rfl; have hcz30_1 : wc.cell? ⟨gb175, 1, none⟩ = some (.int .u64 a3_1) := (blk_cell BK175.out 1).trans rfl; have hfz30_0 := blk_frozen BK175.out 0; have hfz30_1 := blk_frozen BK175.out 1
    try go_wp2_with (first | ((with_reducible refine gate_callee (f := 62) rfl ?_); refine goesL_ (some 39) rfl rfl Try.func62 (by kernel_rfl) rfl #[.agg #[.int .u64 a2_0, .int .u64 a2_1], .agg #[.int .u64 a3_0, .int .u64 a3_1]] rfl (by (try simp only [List.map_toArray, List.map_cons, List.map_nil]); first | done | rfl | (simp only [List.length_drop, List.length_take]; rfl)) ?_; (with_reducible refine (span_same.calls a2_0 a2_1 a3_0 a3_1 t178 t179 t180 _ A23.out).mono ?_); rintro e w31 ⟨rfl, hb⟩; refine ⟨_, rfl, ?_⟩; have n0_ := Aside0.mk (blk_below (g := gb174) (o := .cells #[.int .u64 a2_0, .int .u64 a2_1] 58 (0, 0)) (by (with_reducible repeat (first | apply bN | apply bD | apply bA)); exact BK174.out) hb); have n1_ := Aside0.mk (blk_below (g := gb175) (o := .cells #[.int .u64 a3_0, .int .u64 a3_1] 58 (0, 0)) (by (with_reducible repeat (first | apply bN | apply bD | apply bA)); exact BK175.out) hb); have n2_ := Aside0.mk (blk_below (g := gb176) (o := .cells #[.int .u64 x177000_4, .int .u64 x177001_4] 58 (0, 0)) (by (with_reducible repeat (first | apply bN | apply bD | apply bA)); exact BK176.out) hb); have n3_ := Aside0.mk (blk_below (g := gb177) (o := .cells #[.int .u64 x178000_4, .int .u64 x178001_4] 58 (0, 0)) (by (with_reducible repeat (first | apply bN | apply bD | apply bA)); exact BK177.out) hb); have n4_ := Aside0.mk (below_step (by repeat (first | (with_reducible first | exact HB.out | apply lA | apply lN | apply lD | refine lS ?_ ‹_›) | exact HB.out)) hb); clear BK174; clear BK175; clear BK176; clear BK177; clear HB; have BK174 := n0_; have BK175 := n1_; have BK176 := n2_; have BK177 := n3_; have HB := n4_; clear n0_ n1_ n2_ n3_ n4_; (try clear hb); (try clear hb2); (try clear hk); (try clear hi)) | ((with_reducible refine gate_dst (N := 11) rfl ?_); refine box_event ?hg (N := 11) ?hd (cs := #[.int .u64 0, .int .u64 0]) (t := 58) ?hr ?_; (case hd => rfl); (case hg => rfl); (case hr => first | (go_simp; done) | (go_simp; rfl)); intro gb181 hg w32 hbox hb; have n0_ := Aside0.mk (blk_below (g := gb174) (o := .cells #[.int .u64 a2_0, .int .u64 a2_1] 58 (0, 0)) (by (with_reducible repeat (first | apply bN | apply bD | apply bA)); exact BK174.out) hb); have n1_ := Aside0.mk (blk_below (g := gb175) (o := .cells #[.int .u64 a3_0, .int .u64 a3_1] 58 (0, 0)) (by (with_reducible repeat (first | apply bN | apply bD | apply bA)); exact BK175.out) hb); have n2_ := Aside0.mk (blk_below (g := gb176) (o := .cells #[.int .u64 x177000_4, .int .u64 x177001_4] 58 (0, 0)) (by (with_reducible repeat (first | apply bN | apply bD | apply bA)); exact BK176.out) hb); have n3_ := Aside0.mk (blk_below (g := gb177) (o := .cells #[.int .u64 x178000_4, .int .u64 x178001_4] 58 (0, 0)) (by (with_reducible repeat (first | apply bN | apply bD | apply bA)); exact BK177.out) hb); have n4_ := Aside0.mk (below_step (by repeat (first | (with_reducible first | exact HB.out | apply lA | apply lN | apply lD | refine lS ?_ ‹_›) | exact HB.out)) hb); have n5_ := Aside0.mk (hbox); have n6_ := Aside0.mk ((by rw [hg]; exact (below_size (by repeat (first | (with_reducible first | exact HB.out | apply lA | apply lN | apply lD | refine lS ?_ ‹_›) | exact HB.out))) : w.heap.size ≤ gb181)); have n7_ := n6_; have n8_ := Aside0.mk ((by rw [hg]; exact Nat.ne_of_lt (blk_lt (g := gb174) (o := .cells #[.int .u64 a2_0, .int .u64 a2_1] 58 (0, 0)) (by (with_reducible repeat (first | apply bN | apply bD | apply bA)); exact BK174.out)) : gb174 ≠ gb181)); have n9_ := sy n8_; have n10_ := Aside0.mk ((by rw [hg]; exact Nat.ne_of_lt (blk_lt (g := gb175) (o := .cells #[.int .u64 a3_0, .int .u64 a3_1] 58 (0, 0)) (by (with_reducible repeat (first | apply bN | apply bD | apply bA)); exact BK175.out)) : gb175 ≠ gb181)); have n11_ := sy n10_; have n12_ := Aside0.mk ((by rw [hg]; exact Nat.ne_of_lt (blk_lt (g := gb176) (o := .cells #[.int .u64 x177000_4, .int .u64 x177001_4] 58 (0, 0)) (by (with_reducible repeat (first | apply bN | apply bD | apply bA)); exact BK176.out)) : gb176 ≠ gb181)); have n13_ := sy n12_; have n14_ := Aside0.mk ((by rw [hg]; exact Nat.ne_of_lt (blk_lt (g := gb177) (o := .cells #[.int .u64 x178000_4, .int .u64 x178001_4] 58 (0, 0)) (by (with_reducible repeat (first | apply bN | apply bD | apply bA)); exact BK177.out)) : gb177 ≠ gb181)); have n15_ := sy n14_; clear BK174; clear BK175; clear BK176; clear BK177; clear HB; have BK174 := n0_; have BK175 := n1_; have BK176 := n2_; have BK177 := n3_; have HB := n4_; have BK181 := n5_; have GW181 := n6_; have GE181 := n7_; have NB174_181 := n8_; have NB181_174 := n9_; have NB175_181 := n10_; have NB181_175 := n11_; have NB176_181 := n12_; have NB181_176 := n13_; have NB177_181 := n14_; have NB181_177 := n15_; clear n0_ n1_ n2_ n3_ n4_ n5_ n6_ n7_ n8_ n9_ n10_ n11_ n12_ n13_ n14_ n15_; clear hb hbox hg; have hnb33 := NB181_174.out; have hnc33 := NB174_181.out; have hnb34 := NB181_175.out; have hnc34 := NB175_181.out; have hnb35 := NB181_176.out; have hnc35 := NB176_181.out; have hnb36 := NB181_177.out; have hnc36 := NB177_181.out; have hcz37_0 : w32.cell? ⟨gb181, 0, none⟩ = some (.int .u64 0) := (blk_cell BK181.out 0).trans rfl; have hcz37_1 : w32.cell? ⟨gb181, 1, none⟩ = some (.int .u64 0) := (blk_cell BK181.out 1).trans rfl; have hfz37_0 := blk_frozen BK181.out 0; have hfz37_1 := blk_frozen BK181.out 1))
    have n0_ : Aside0 (((w32.setCell ⟨gb181, 0, none⟩ (.int .u64 t178)).setCell ⟨gb181, 1, none⟩ (.int .u64 t179)).heap[gb174]? = some (.cells #[.int .u64 a2_0, .int .u64 a2_1] 58 (0, 0))) := ⟨by (with_reducible repeat (first | apply bN | apply bD | apply bA)); refine blk_far ?_ NB174_181.out _; (with_reducible repeat (first | apply bN | apply bD | apply bA)); refine blk_far ?_ NB174_181.out _; (with_reducible repeat (first | apply bN | apply bD | apply bA)); exact BK174.out⟩
    have n1_ : Aside0 (((w32.setCell ⟨gb181, 0, none⟩ (.int .u64 t178)).setCell ⟨gb181, 1, none⟩ (.int .u64 t179)).heap[gb175]? = some (.cells #[.int .u64 a3_0, .int .u64 a3_1] 58 (0, 0))) := ⟨by (with_reducible repeat (first | apply bN | apply bD | apply bA)); refine blk_far ?_ NB175_181.out _; (with_reducible repeat (first | apply bN | apply bD | apply bA)); refine blk_far ?_ NB175_181.out _; (with_reducible repeat (first | apply bN | apply bD | apply bA)); exact BK175.out⟩
    have n2_ : Aside0 (((w32.setCell ⟨gb181, 0, none⟩ (.int .u64 t178)).setCell ⟨gb181, 1, none⟩ (.int .u64 t179)).heap[gb176]? = some (.cells #[.int .u64 x177000_4, .int .u64 x177001_4] 58 (0, 0))) := ⟨by (with_reducible repeat (first | apply bN | apply bD | apply bA)); refine blk_far ?_ NB176_181.out _; (with_reducible repeat (first | apply bN | apply bD | apply bA)); refine blk_far ?_ NB176_181.out _; (with_reducible repeat (first | apply bN | apply bD | apply bA)); exact BK176.out⟩
    have n3_ : Aside0 (((w32.setCell ⟨gb181, 0, none⟩ (.int .u64 t178)).setCell ⟨gb181, 1, none⟩ (.int .u64 t179)).heap[gb177]? = some (.cells #[.int .u64 x178000_4, .int .u64 x178001_4] 58 (0, 0))) := ⟨by (with_reducible repeat (first | apply bN | apply bD | apply bA)); refine blk_far ?_ NB177_181.out _; (with_reducible repeat (first | apply bN | apply bD | apply bA)); refine blk_far ?_ NB177_181.out _; (with_reducible repeat (first | apply bN | apply bD | apply bA)); exact BK177.out⟩
    have n4_ : Aside0 (((w32.setCell ⟨gb181, 0, none⟩ (.int .u64 t178)).setCell ⟨gb181, 1, none⟩ (.int .u64 t179)).heap[gb181]? = some (.cells #[.int .u64 t178, .int .u64 t179] 58 (0, 0))) := ⟨by (with_reducible repeat (first | apply bN | apply bD | apply bA)); refine blk_put (cs := #[.int .u64 t178, .int .u64 0]) ?_ 1 _ rfl; (with_reducible repeat (first | apply bN | apply bD | apply bA)); refine blk_put (cs := #[.int .u64 0, .int .u64 0]) ?_ 0 _ rfl; (with_reducible repeat (first | apply bN | apply bD | apply bA)); exact BK181.out⟩
    have n5_ : Aside0 (Below w.heap.size w ((w32.setCell ⟨gb181, 0, none⟩ (.int .u64 t178)).setCell ⟨gb181, 1, none⟩ (.int .u64 t179))) := ⟨by repeat (first | (with_reducible first | exact HB.out | apply lA | apply lN | apply lD | refine lS ?_ ‹_›) | exact HB.out)⟩
    (try clear BK174)
    (try clear BK175)
    (try clear BK176)
    (try clear BK177)
    (try clear BK181)
    (try clear HB)
    generalize ((w32.setCell ⟨gb181, 0, none⟩ (.int .u64 t178)).setCell ⟨gb181, 1, none⟩ (.int .u64 t179)) = w38 at n0_ n1_ n2_ n3_ n4_ n5_ ⊢
    have BK174 := n0_; have BK175 := n1_; have BK176 := n2_; have BK177 := n3_; have BK181 := n4_; have HB := n5_; clear n0_ n1_ n2_ n3_ n4_ n5_; have n0_ := Aside0.mk (blk_drew BK174.out); have n1_ := Aside0.mk (blk_drew BK175.out); have n2_ := Aside0.mk (blk_drew BK176.out); have n3_ := Aside0.mk (blk_drew BK177.out); have n4_ := Aside0.mk (blk_drew BK181.out)
    have n5_ := Aside0.mk (below_drew1 HB.out)
    clear BK174; clear BK175; clear BK176; clear BK177; clear BK181; clear HB; have BK174 := n0_; have BK175 := n1_; have BK176 := n2_; have BK177 := n3_; have BK181 := n4_; have HB := n5_; clear n0_ n1_ n2_ n3_ n4_ n5_
    refine start_ (n := 6) (S := fun w' => w'.cell? ⟨gb181, 0, none⟩ = some (.int .u64 t178) ∧ w'.cell? ⟨gb181, 1, none⟩ = some (.int .u64 t179)) (ds := []) #[false, false, false, false, false, false] (by kernel_rfl) rfl rfl ⟨(blk_cell BK181.out 0).trans rfl, (blk_cell BK181.out 1).trans rfl⟩ (fun hHeld => ?_)
    generalize w38.drew = w39 at BK174 BK175 BK176 BK177 BK181 HB hHeld ⊢
    refine pure_ (i := 2) (N := some 44) (v := ?_) (a' := ?_) #[false, false, true, false, false, false] rfl rfl (by kernel_rfl) (fun _ _ _ h => h) (Or.inl ⟨by rfl, ?_⟩) ?_ ?_
    rotate_left
    ·
     intro w'
     go_simp; with_reducible rfl
    rotate_left
    ·
     simp only [Act.put, List.setIfInBounds_toArray, List.set_cons_zero, List.set_cons_succ, i64_w, i32_w]
     rfl
    refine take_ (i := 0) (N := some 42) (v := ?_) (a' := ?_) #[true, false, true, false, false, false] rfl rfl (by kernel_rfl) (fun _ _ _ h => h) (Or.inl ⟨by rfl, ?_⟩) hHeld ?_ ?_
    rotate_left
    ·
     rintro w' ⟨s0, s1⟩
     go_simp; with_reducible rfl
    rotate_left
    ·
     simp only [Act.put, List.setIfInBounds_toArray, List.set_cons_zero, List.set_cons_succ, i64_w, i32_w]
     rfl
    refine take_ (i := 1) (N := some 43) (v := ?_) (a' := ?_) #[true, true, true, false, false, false] rfl rfl (by kernel_rfl) (fun _ _ _ h => h) (Or.inl ⟨by rfl, ?_⟩) hHeld ?_ ?_
    rotate_left
    ·
     rintro w' ⟨s0, s1⟩
     go_simp; with_reducible rfl
    rotate_left
    ·
     simp only [Act.put, List.setIfInBounds_toArray, List.set_cons_zero, List.set_cons_succ, i64_w, i32_w]
     rfl
    refine one_ (i := 3) (N := none) #[true, true, true, true, false, false] rfl rfl (by kernel_rfl) (by decide) (fun K hK => ?_)
    have hs40 : w39.cell? ⟨gb176, 0, none⟩ = some (.int .u64 x177000_4) := (blk_cell BK176.out 0).trans rfl
    have hfs40 := blk_frozen BK176.out 0
    have hns40_0 := NB174_176.out
    have hns40_1 := NB175_176.out
    have hns40_3 := NB177_176.out
    have hns40_4 := NB181_176.out
    have hms40_0 := NB176_174.out
    have hms40_1 := NB176_175.out
    have hms40_3 := NB176_177.out
    have hms40_4 := NB176_181.out
    have hs41 : w39.cell? ⟨gb176, 1, none⟩ = some (.int .u64 x177001_4) := (blk_cell BK176.out 1).trans rfl
    have hfs41 := blk_frozen BK176.out 1
    have hns41_0 := NB174_176.out
    have hns41_1 := NB175_176.out
    have hns41_3 := NB177_176.out
    have hns41_4 := NB181_176.out
    have hms41_0 := NB176_174.out
    have hms41_1 := NB176_175.out
    have hms41_3 := NB176_177.out
    have hms41_4 := NB176_181.out
    refine skip_ (w1 := ?_) (by rfl) rfl ?_ ?_
    rotate_left
    ·
     go_simp
     rfl
    refine hK.out _ _ ⟨((cell_far (p := ⟨gb176, _, none⟩) NB181_176.out _).trans (((cell_far (p := ⟨gb176, _, none⟩) NB181_176.out _).trans (hHeld.1)))), ((cell_far (p := ⟨gb176, _, none⟩) NB181_176.out _).trans (((cell_far (p := ⟨gb176, _, none⟩) NB181_176.out _).trans (hHeld.2))))⟩ (fun hHeld => ?_)
    clear hK K
    refine one_ (i := 4) (N := none) #[true, true, true, true, true, false] rfl rfl (by kernel_rfl) (by decide) (fun K hK => ?_)
    have hs42 : w39.cell? ⟨gb177, 0, none⟩ = some (.int .u64 x178000_4) := (blk_cell BK177.out 0).trans rfl
    have hfs42 := blk_frozen BK177.out 0
    have hns42_0 := NB174_177.out
    have hns42_1 := NB175_177.out
    have hns42_2 := NB176_177.out
    have hns42_4 := NB181_177.out
    have hms42_0 := NB177_174.out
    have hms42_1 := NB177_175.out
    have hms42_2 := NB177_176.out
    have hms42_4 := NB177_181.out
    have hs43 : w39.cell? ⟨gb177, 1, none⟩ = some (.int .u64 x178001_4) := (blk_cell BK177.out 1).trans rfl
    have hfs43 := blk_frozen BK177.out 1
    have hns43_0 := NB174_177.out
    have hns43_1 := NB175_177.out
    have hns43_2 := NB176_177.out
    have hns43_4 := NB181_177.out
    have hms43_0 := NB177_174.out
    have hms43_1 := NB177_175.out
    have hms43_2 := NB177_176.out
    have hms43_4 := NB177_181.out
    refine skip_ (w1 := ?_) (by rfl) rfl ?_ ?_
    rotate_left
    ·
     go_simp
     rfl
    refine hK.out _ _ ⟨((cell_far (p := ⟨gb177, _, none⟩) NB181_177.out _).trans (((cell_far (p := ⟨gb177, _, none⟩) NB181_177.out _).trans (hHeld.1)))), ((cell_far (p := ⟨gb177, _, none⟩) NB181_177.out _).trans (((cell_far (p := ⟨gb177, _, none⟩) NB181_177.out _).trans (hHeld.2))))⟩ (fun hHeld => ?_)
    clear hK K
    refine pure_ (i := 5) (N := some 10) (v := ?_) (a' := ?_) #[true, true, true, true, true, true] rfl rfl (by kernel_rfl) (fun _ _ _ h => h) (Or.inl ⟨by rfl, ?_⟩) ?_ ?_
    rotate_left
    ·
     intro w'
     go_simp; with_reducible rfl
    rotate_left
    ·
     simp only [Act.put, List.setIfInBounds_toArray, List.set_cons_zero, List.set_cons_succ, i64_w, i32_w]
     rfl
    refine done_ (by kernel_rfl) ?_
    try go_wp2
    refine bodyPost_ret (results_list (rs := [.cell 8 58, .cell 9 58, .tmp 10]) rfl (by simp) (.cell gb176 58 #[.int .u64 t178, .int .u64 t179] (0, 0) _ rfl (by (with_reducible repeat (first | apply bN | apply bD | apply bA)); refine blk_far ?_ NB176_177.out _; (with_reducible repeat (first | apply bN | apply bD | apply bA)); refine blk_far ?_ NB176_177.out _; (with_reducible repeat (first | apply bN | apply bD | apply bA)); refine blk_put (cs := #[.int .u64 t178, .int .u64 x177001_4]) ?_ 1 _ rfl; (with_reducible repeat (first | apply bN | apply bD | apply bA)); refine blk_put (cs := #[.int .u64 x177000_4, .int .u64 x177001_4]) ?_ 0 _ rfl; (with_reducible repeat (first | apply bN | apply bD | apply bA)); exact BK176.out) Try.underlying58 rfl (by kernel_rfl) (.cell gb177 58 #[.int .u64 t178, .int .u64 t179] (0, 0) _ rfl (by (with_reducible repeat (first | apply bN | apply bD | apply bA)); refine blk_put (cs := #[.int .u64 t178, .int .u64 x178001_4]) ?_ 1 _ rfl; (with_reducible repeat (first | apply bN | apply bD | apply bA)); refine blk_put (cs := #[.int .u64 x178000_4, .int .u64 x178001_4]) ?_ 0 _ rfl; (with_reducible repeat (first | apply bN | apply bD | apply bA)); refine blk_far ?_ NB177_176.out _; (with_reducible repeat (first | apply bN | apply bD | apply bA)); refine blk_far ?_ NB177_176.out _; (with_reducible repeat (first | apply bN | apply bD | apply bA)); exact BK177.out) Try.underlying58 rfl (by kernel_rfl) (.tmp .nil)))) rfl ?_
    exact ⟨by first | rfl | (simp [errW_none, errW_some] <;> rfl) | (simp [*, errW_none, errW_some] <;> rfl), by repeat (first | (with_reducible first | exact HB.out | apply lA | apply lN | apply lD | refine lS ?_ ‹_›) | exact HB.out)⟩
   ·
    rw [if_neg c22] at H
    have c22b0 : (x0_4 == 16) = false := beq_eq_false_iff_ne.mpr c22; have c22b1 : (x0_4 != 16) = true := bne_iff_ne.mpr c22
    by_cases c44 : x0_4 = 80
    ·
     rw [if_pos c44] at H
     have c44b0 : (x0_4 == 80) = true := beq_iff_eq.mpr c44; have c44b1 : (x0_4 != 80) = false := bne_eq_false_iff_eq.mpr c44; clear c44; replace H := Option.bind_eq_some_iff.mp H; obtain ⟨⟨t182, t183, t184, t185, t186⟩, A450, H⟩ := H
     replace H : (some (t182, t183, t184, t185, t186)) = some (r1, r2, r3, r4, r5) := H
     have A45 := Aside0.mk A450; clear A450; simp only [Option.some.injEq, Prod.mk.injEq] at H; obtain ⟨rfl, rfl, rfl, rfl, rfl⟩ := H; have hnb46 := NB174_175.out; have hnc46 := NB175_174.out; have hnb47 := NB174_176.out; have hnc47 := NB176_174.out; have hnb48 := NB174_177.out; have hnc48 := NB177_174.out; have hcz49_0 : wc.cell? ⟨gb174, 0, none⟩ = some (.int .u64 a2_0) := (blk_cell BK174.out 0).trans rfl; have hcz49_1 : wc.cell? ⟨gb174, 1, none⟩ = some (.int .u64 a2_1) := (blk_cell BK174.out 1).trans rfl; have hfz49_0 := blk_frozen BK174.out 0; have hfz49_1 := blk_frozen BK174.out 1; have hnb50 := NB175_176.out; have hnc50 := NB176_175.out; have hnb51 := NB175_177.out; have hnc51 := NB177_175.out; have hcz52_0 : wc.cell? ⟨gb175, 0, none⟩ = some (.int .u64 a3_0) := (blk_cell BK175.out 0).trans rfl; have hcz52_1 : wc.cell? ⟨gb175, 1, none⟩ = some (.int .u64 a3_1) := (blk_cell BK175.out 1).trans rfl; have hfz52_0 := blk_frozen BK175.out 0; have hfz52_1 := blk_frozen BK175.out 1
     go_wp2_with (first | ((with_reducible refine gate_callee (f := 63) rfl ?_); refine goesL_ (some 49) rfl rfl Try.func63 (by kernel_rfl) rfl #[.agg #[.int .u64 a2_0, .int .u64 a2_1], .agg #[.int .u64 a3_0, .int .u64 a3_1]] rfl (by (try simp only [List.map_toArray, List.map_cons, List.map_nil]); first | done | rfl | (simp only [List.length_drop, List.length_take]; rfl)) ?_; (with_reducible refine (span_unlike.calls kj4 a2_0 a2_1 a3_0 a3_1 t182 t183 t184 t185 t186 _ A45.out).mono ?_); rintro e w53 ⟨rfl, hb⟩; refine ⟨_, rfl, ?_⟩; have n0_ := Aside0.mk (blk_below (g := gb174) (o := .cells #[.int .u64 a2_0, .int .u64 a2_1] 58 (0, 0)) (by (with_reducible repeat (first | apply bN | apply bD | apply bA)); exact BK174.out) hb); have n1_ := Aside0.mk (blk_below (g := gb175) (o := .cells #[.int .u64 a3_0, .int .u64 a3_1] 58 (0, 0)) (by (with_reducible repeat (first | apply bN | apply bD | apply bA)); exact BK175.out) hb); have n2_ := Aside0.mk (blk_below (g := gb176) (o := .cells #[.int .u64 x177000_4, .int .u64 x177001_4] 58 (0, 0)) (by (with_reducible repeat (first | apply bN | apply bD | apply bA)); exact BK176.out) hb); have n3_ := Aside0.mk (blk_below (g := gb177) (o := .cells #[.int .u64 x178000_4, .int .u64 x178001_4] 58 (0, 0)) (by (with_reducible repeat (first | apply bN | apply bD | apply bA)); exact BK177.out) hb); have n4_ := Aside0.mk (below_step (by repeat (first | (with_reducible first | exact HB.out | apply lA | apply lN | apply lD | refine lS ?_ ‹_›) | exact HB.out)) hb); clear BK174; clear BK175; clear BK176; clear BK177; clear HB; have BK174 := n0_; have BK175 := n1_; have BK176 := n2_; have BK177 := n3_; have HB := n4_; clear n0_ n1_ n2_ n3_ n4_; (try clear hb); (try clear hb2); (try clear hk); (try clear hi); have hnb54 := NB176_177.out; have hnc54 := NB177_176.out; have hcz55_0 : w53.cell? ⟨gb176, 0, none⟩ = some (.int .u64 x177000_4) := (blk_cell BK176.out 0).trans rfl; have hcz55_1 : w53.cell? ⟨gb176, 1, none⟩ = some (.int .u64 x177001_4) := (blk_cell BK176.out 1).trans rfl; have hfz55_0 := blk_frozen BK176.out 0; have hfz55_1 := blk_frozen BK176.out 1; have hcz56_0 : w53.cell? ⟨gb177, 0, none⟩ = some (.int .u64 x178000_4) := (blk_cell BK177.out 0).trans rfl; have hcz56_1 : w53.cell? ⟨gb177, 1, none⟩ = some (.int .u64 x178001_4) := (blk_cell BK177.out 1).trans rfl; have hfz56_0 := blk_frozen BK177.out 0; have hfz56_1 := blk_frozen BK177.out 1))
     refine bodyPost_ret (results_list (rs := [.cell 8 58, .cell 9 58, .tmp 10]) rfl (by simp) (.cell gb176 58 #[.int .u64 t182, .int .u64 t183] (0, 0) _ rfl (by (with_reducible repeat (first | apply bN | apply bD | apply bA)); refine blk_far ?_ NB176_177.out _; (with_reducible repeat (first | apply bN | apply bD | apply bA)); refine blk_far ?_ NB176_177.out _; (with_reducible repeat (first | apply bN | apply bD | apply bA)); refine blk_put (cs := #[.int .u64 t182, .int .u64 x177001_4]) ?_ 1 _ rfl; (with_reducible repeat (first | apply bN | apply bD | apply bA)); refine blk_put (cs := #[.int .u64 x177000_4, .int .u64 x177001_4]) ?_ 0 _ rfl; (with_reducible repeat (first | apply bN | apply bD | apply bA)); exact BK176.out) Try.underlying58 rfl (by kernel_rfl) (.cell gb177 58 #[.int .u64 t184, .int .u64 t185] (0, 0) _ rfl (by (with_reducible repeat (first | apply bN | apply bD | apply bA)); refine blk_put (cs := #[.int .u64 t184, .int .u64 x178001_4]) ?_ 1 _ rfl; (with_reducible repeat (first | apply bN | apply bD | apply bA)); refine blk_put (cs := #[.int .u64 x178000_4, .int .u64 x178001_4]) ?_ 0 _ rfl; (with_reducible repeat (first | apply bN | apply bD | apply bA)); refine blk_far ?_ NB177_176.out _; (with_reducible repeat (first | apply bN | apply bD | apply bA)); refine blk_far ?_ NB177_176.out _; (with_reducible repeat (first | apply bN | apply bD | apply bA)); exact BK177.out) Try.underlying58 rfl (by kernel_rfl) (.tmp .nil)))) rfl ?_
     exact ⟨by first | rfl | (simp [errW_none, errW_some] <;> rfl) | (simp [*, errW_none, errW_some] <;> rfl), by repeat (first | (with_reducible first | exact HB.out | apply lA | apply lN | apply lD | refine lS ?_ ‹_›) | exact HB.out)⟩
    ·
     rw [if_neg c44] at H
     have c44b0 : (x0_4 == 80) = false := beq_eq_false_iff_ne.mpr c44; have c44b1 : (x0_4 != 80) = true := bne_iff_ne.mpr c44
     have HC57 := Aside0.mk H
     clear H
     go_upto_if 53 with (fail)
     go_cut [53] (fun v53 wc => ∃ (kq : Nat) (x53_56 : Bool), v53 = .bool x53_56 ∧ Aside0 (span_order.j1 kq x0_4 x0_4 x53_56 a2_0 a2_1 a3_0 a3_1 = some (r1, r2, r3, r4, r5)) ∧ Aside0 (kq ≤ kj4) ∧ Aside0 (wc.heap[gb174]? = some (.cells #[.int .u64 a2_0, .int .u64 a2_1] 58 (0, 0))) ∧ Aside0 (wc.heap[gb175]? = some (.cells #[.int .u64 a3_0, .int .u64 a3_1] 58 (0, 0))) ∧ Aside0 (wc.heap[gb176]? = some (.cells #[.int .u64 x177000_4, .int .u64 x177001_4] 58 (0, 0))) ∧ Aside0 (wc.heap[gb177]? = some (.cells #[.int .u64 x178000_4, .int .u64 x178001_4] 58 (0, 0))) ∧ Aside0 (Below w.heap.size w wc))
     case first =>
      have H := HC57.out
      clear HC57
      by_cases c58 : x0_4 = 160
      ·
       rw [if_pos c58] at H
       have c58b0 : (x0_4 == 160) = true := beq_iff_eq.mpr c58; have c58b1 : (x0_4 != 160) = false := bne_eq_false_iff_eq.mpr c58; clear c58
       (first | rw [c58b0] | (simp only [i64_w, i32_w]; rw [c58b0]) | skip)
       have H' := Aside0.mk H
       clear H
       go_wp2
       go_meet
       case rel => exact ⟨_, ((x0_4 == 160)), (by first | rfl | (simp; done) | (simp [*]; done)), H', ⟨by have := HJ4.out; first | omega | exact Nat.le_refl _⟩, ⟨by (with_reducible repeat (first | apply bN | apply bD | apply bA)); exact BK174.out⟩, ⟨by (with_reducible repeat (first | apply bN | apply bD | apply bA)); exact BK175.out⟩, ⟨by (with_reducible repeat (first | apply bN | apply bD | apply bA)); exact BK176.out⟩, ⟨by (with_reducible repeat (first | apply bN | apply bD | apply bA)); exact BK177.out⟩, ⟨by repeat (first | (with_reducible first | exact HB.out | apply lA | apply lN | apply lD | refine lS ?_ ‹_›) | exact HB.out)⟩⟩
      ·
       rw [if_neg c58] at H
       have c58b0 : (x0_4 == 160) = false := beq_eq_false_iff_ne.mpr c58; have c58b1 : (x0_4 != 160) = true := bne_iff_ne.mpr c58
       (first | rw [c58b0] | (simp only [i64_w, i32_w]; rw [c58b0]) | skip)
       have H' := Aside0.mk H
       clear H
       go_wp2
       go_meet
       case rel => exact ⟨_, ((x0_4 == 176)), (by first | rfl | (simp; done) | (simp [*]; done)), H', ⟨by have := HJ4.out; first | omega | exact Nat.le_refl _⟩, ⟨by (with_reducible repeat (first | apply bN | apply bD | apply bA)); exact BK174.out⟩, ⟨by (with_reducible repeat (first | apply bN | apply bD | apply bA)); exact BK175.out⟩, ⟨by (with_reducible repeat (first | apply bN | apply bD | apply bA)); exact BK176.out⟩, ⟨by (with_reducible repeat (first | apply bN | apply bD | apply bA)); exact BK177.out⟩, ⟨by repeat (first | (with_reducible first | exact HB.out | apply lA | apply lN | apply lD | refine lS ?_ ‹_›) | exact HB.out)⟩⟩
     case rest =>
      clear HC57
      try clear c1
      try clear c2
      try clear p2
      try clear c3
      try clear c4
      try clear c5
      try clear c6
      try clear c10
      try clear c11
      try clear c11b0
      try clear c11b1
      try clear c12
      try clear c12b0
      try clear c12b1
      try clear c13
      try clear c13b0
      try clear c13b1
      try clear c14
      try clear c14b0
      try clear c14b1
      try clear c15
      try clear c15b0
      try clear c15b1
      try clear c16
      try clear c16b0
      try clear c16b1
      try clear c22
      try clear c22b0
      try clear c22b1
      try clear c24
      try clear c25
      try clear c26
      try clear c28
      try clear c29
      try clear c33
      try clear c34
      try clear c35
      try clear c36
      try clear c44
      try clear c44b0
      try clear c44b1
      try clear c46
      try clear c47
      try clear c48
      try clear c50
      try clear c51
      try clear c54
      try clear c58
      try clear c58b0
      try clear c58b1
      try clear hcz27_0
      try clear hcz27_1
      try clear hcz30_0
      try clear hcz30_1
      try clear hcz37_0
      try clear hcz37_1
      try clear hcz49_0
      try clear hcz49_1
      try clear hcz52_0
      try clear hcz52_1
      try clear hcz55_0
      try clear hcz55_1
      try clear hcz56_0
      try clear hcz56_1
      try clear hfz27_0
      try clear hfz27_1
      try clear hfz30_0
      try clear hfz30_1
      try clear hfz37_0
      try clear hfz37_1
      try clear hfz49_0
      try clear hfz49_1
      try clear hfz52_0
      try clear hfz52_1
      try clear hfz55_0
      try clear hfz55_1
      try clear hfz56_0
      try clear hfz56_1
      try clear p2
      obtain ⟨kq, x53_56, rfl, HA, HJ56, BK174, BK175, BK176, BK177, HB⟩ := hcut
      cases kq with
      | zero => exact absurd HA.out (by simp [span_order.j1])
      | succ kj56 =>
       have H := HA.out
       clear HA
       simp only [span_order.j1] at H
       by_cases c59 : x53_56 = true
       ·
        subst c59
        have H1 : ((span_less.f a2_0 a2_1 a3_0 a3_1 (x0_4 == 176)).bind fun bt187 => (some (bt187.1, bt187.2.1, bt187.2.2.1, bt187.2.2.2.1, bt187.2.2.2.2))) = some (r1, r2, r3, r4, r5) := by rw [if_pos rfl] at H; exact H
        clear H; have H := H1; clear H1; replace H := Option.bind_eq_some_iff.mp H; obtain ⟨⟨t187, t188, t189, t190, t191⟩, A600, H⟩ := H
        replace H : (some (t187, t188, t189, t190, t191)) = some (r1, r2, r3, r4, r5) := H
        have A60 := Aside0.mk A600; clear A600; simp only [Option.some.injEq, Prod.mk.injEq] at H; obtain ⟨rfl, rfl, rfl, rfl, rfl⟩ := H; have hnb61 := NB174_175.out; have hnc61 := NB175_174.out; have hnb62 := NB174_176.out; have hnc62 := NB176_174.out; have hnb63 := NB174_177.out; have hnc63 := NB177_174.out; have hcz64_0 : wc.cell? ⟨gb174, 0, none⟩ = some (.int .u64 a2_0) := (blk_cell BK174.out 0).trans rfl; have hcz64_1 : wc.cell? ⟨gb174, 1, none⟩ = some (.int .u64 a2_1) := (blk_cell BK174.out 1).trans rfl; have hfz64_0 := blk_frozen BK174.out 0; have hfz64_1 := blk_frozen BK174.out 1; have hnb65 := NB175_176.out; have hnc65 := NB176_175.out; have hnb66 := NB175_177.out; have hnc66 := NB177_175.out; have hcz67_0 : wc.cell? ⟨gb175, 0, none⟩ = some (.int .u64 a3_0) := (blk_cell BK175.out 0).trans rfl; have hcz67_1 : wc.cell? ⟨gb175, 1, none⟩ = some (.int .u64 a3_1) := (blk_cell BK175.out 1).trans rfl; have hfz67_0 := blk_frozen BK175.out 0; have hfz67_1 := blk_frozen BK175.out 1
        go_wp2_with (first | ((with_reducible refine gate_callee (f := 64) rfl ?_); refine goesL_ (some 60) rfl rfl Try.func64 (by kernel_rfl) rfl #[.agg #[.int .u64 a2_0, .int .u64 a2_1], .agg #[.int .u64 a3_0, .int .u64 a3_1], .bool (x0_4 == 176)] rfl (by (try simp only [List.map_toArray, List.map_cons, List.map_nil]); first | done | rfl | (simp only [List.length_drop, List.length_take]; rfl)) ?_; (with_reducible refine (span_less.calls a2_0 a2_1 a3_0 a3_1 (x0_4 == 176) t187 t188 t189 t190 t191 _ A60.out).mono ?_); rintro e w68 ⟨rfl, hb⟩; refine ⟨_, rfl, ?_⟩; have n0_ := Aside0.mk (blk_below (g := gb174) (o := .cells #[.int .u64 a2_0, .int .u64 a2_1] 58 (0, 0)) (by (with_reducible repeat (first | apply bN | apply bD | apply bA)); exact BK174.out) hb); have n1_ := Aside0.mk (blk_below (g := gb175) (o := .cells #[.int .u64 a3_0, .int .u64 a3_1] 58 (0, 0)) (by (with_reducible repeat (first | apply bN | apply bD | apply bA)); exact BK175.out) hb); have n2_ := Aside0.mk (blk_below (g := gb176) (o := .cells #[.int .u64 x177000_4, .int .u64 x177001_4] 58 (0, 0)) (by (with_reducible repeat (first | apply bN | apply bD | apply bA)); exact BK176.out) hb); have n3_ := Aside0.mk (blk_below (g := gb177) (o := .cells #[.int .u64 x178000_4, .int .u64 x178001_4] 58 (0, 0)) (by (with_reducible repeat (first | apply bN | apply bD | apply bA)); exact BK177.out) hb); have n4_ := Aside0.mk (below_step (by repeat (first | (with_reducible first | exact HB.out | apply lA | apply lN | apply lD | refine lS ?_ ‹_›) | exact HB.out)) hb); clear BK174; clear BK175; clear BK176; clear BK177; clear HB; have BK174 := n0_; have BK175 := n1_; have BK176 := n2_; have BK177 := n3_; have HB := n4_; clear n0_ n1_ n2_ n3_ n4_; (try clear hb); (try clear hb2); (try clear hk); (try clear hi); have hnb69 := NB176_177.out; have hnc69 := NB177_176.out; have hcz70_0 : w68.cell? ⟨gb176, 0, none⟩ = some (.int .u64 x177000_4) := (blk_cell BK176.out 0).trans rfl; have hcz70_1 : w68.cell? ⟨gb176, 1, none⟩ = some (.int .u64 x177001_4) := (blk_cell BK176.out 1).trans rfl; have hfz70_0 := blk_frozen BK176.out 0; have hfz70_1 := blk_frozen BK176.out 1; have hcz71_0 : w68.cell? ⟨gb177, 0, none⟩ = some (.int .u64 x178000_4) := (blk_cell BK177.out 0).trans rfl; have hcz71_1 : w68.cell? ⟨gb177, 1, none⟩ = some (.int .u64 x178001_4) := (blk_cell BK177.out 1).trans rfl; have hfz71_0 := blk_frozen BK177.out 0; have hfz71_1 := blk_frozen BK177.out 1))
        refine bodyPost_ret (results_list (rs := [.cell 8 58, .cell 9 58, .tmp 10]) rfl (by simp) (.cell gb176 58 #[.int .u64 t187, .int .u64 t188] (0, 0) _ rfl (by (with_reducible repeat (first | apply bN | apply bD | apply bA)); refine blk_far ?_ NB176_177.out _; (with_reducible repeat (first | apply bN | apply bD | apply bA)); refine blk_far ?_ NB176_177.out _; (with_reducible repeat (first | apply bN | apply bD | apply bA)); refine blk_put (cs := #[.int .u64 t187, .int .u64 x177001_4]) ?_ 1 _ rfl; (with_reducible repeat (first | apply bN | apply bD | apply bA)); refine blk_put (cs := #[.int .u64 x177000_4, .int .u64 x177001_4]) ?_ 0 _ rfl; (with_reducible repeat (first | apply bN | apply bD | apply bA)); exact BK176.out) Try.underlying58 rfl (by kernel_rfl) (.cell gb177 58 #[.int .u64 t189, .int .u64 t190] (0, 0) _ rfl (by (with_reducible repeat (first | apply bN | apply bD | apply bA)); refine blk_put (cs := #[.int .u64 t189, .int .u64 x178001_4]) ?_ 1 _ rfl; (with_reducible repeat (first | apply bN | apply bD | apply bA)); refine blk_put (cs := #[.int .u64 x178000_4, .int .u64 x178001_4]) ?_ 0 _ rfl; (with_reducible repeat (first | apply bN | apply bD | apply bA)); refine blk_far ?_ NB177_176.out _; (with_reducible repeat (first | apply bN | apply bD | apply bA)); refine blk_far ?_ NB177_176.out _; (with_reducible repeat (first | apply bN | apply bD | apply bA)); exact BK177.out) Try.underlying58 rfl (by kernel_rfl) (.tmp .nil)))) rfl ?_
        exact ⟨by first | rfl | (simp [errW_none, errW_some] <;> rfl) | (simp [*, errW_none, errW_some] <;> rfl), by repeat (first | (with_reducible first | exact HB.out | apply lA | apply lN | apply lD | refine lS ?_ ‹_›) | exact HB.out)⟩
       ·
        replace c59 := Bool.eq_false_iff.mpr c59
        subst c59
        have H1 : (if x0_4 = 32 then ((span_less.f a3_0 a3_1 a2_0 a2_1 (x0_4 == 48)).bind fun bt192 => (some (bt192.2.2.1, bt192.2.2.2.1, bt192.1, bt192.2.1, bt192.2.2.2.2))) else (if x0_4 = 48 then ((span_less.f a3_0 a3_1 a2_0 a2_1 (x0_4 == 48)).bind fun bt199 => (some (bt199.2.2.1, bt199.2.2.2.1, bt199.1, bt199.2.1, bt199.2.2.2.2))) else (if a2_1 > 0 then (some (a2_0, a2_1, a3_0, a3_1, decide (a3_1 > 0))) else (some (a2_0, a2_1, a3_0, a3_1, false))))) = some (r1, r2, r3, r4, r5) := by rw [if_neg (show ¬ (false = true) by decide)] at H; exact H
        clear H; have H := H1; clear H1
        by_cases c72 : x0_4 = 32
        ·
         rw [if_pos c72] at H
         have c72b0 : (x0_4 == 32) = true := beq_iff_eq.mpr c72; have c72b1 : (x0_4 != 32) = false := bne_eq_false_iff_eq.mpr c72; clear c72; replace H := Option.bind_eq_some_iff.mp H; obtain ⟨⟨t192, t193, t194, t195, t196⟩, A730, H⟩ := H
         replace H : (some (t194, t195, t192, t193, t196)) = some (r1, r2, r3, r4, r5) := H
         have A73 := Aside0.mk A730; clear A730; simp only [Option.some.injEq, Prod.mk.injEq] at H; obtain ⟨rfl, rfl, rfl, rfl, rfl⟩ := H; have hnb74 := NB175_174.out; have hnc74 := NB174_175.out; have hnb75 := NB175_176.out; have hnc75 := NB176_175.out; have hnb76 := NB175_177.out; have hnc76 := NB177_175.out; have hcz77_0 : wc.cell? ⟨gb175, 0, none⟩ = some (.int .u64 a3_0) := (blk_cell BK175.out 0).trans rfl; have hcz77_1 : wc.cell? ⟨gb175, 1, none⟩ = some (.int .u64 a3_1) := (blk_cell BK175.out 1).trans rfl; have hfz77_0 := blk_frozen BK175.out 0; have hfz77_1 := blk_frozen BK175.out 1; have hnb78 := NB174_176.out; have hnc78 := NB176_174.out; have hnb79 := NB174_177.out; have hnc79 := NB177_174.out; have hcz80_0 : wc.cell? ⟨gb174, 0, none⟩ = some (.int .u64 a2_0) := (blk_cell BK174.out 0).trans rfl; have hcz80_1 : wc.cell? ⟨gb174, 1, none⟩ = some (.int .u64 a2_1) := (blk_cell BK174.out 1).trans rfl; have hfz80_0 := blk_frozen BK174.out 0; have hfz80_1 := blk_frozen BK174.out 1
         try go_wp2_with (first | ((with_reducible refine gate_callee (f := 64) rfl ?_); refine goesL_ (some 72) rfl rfl Try.func64 (by kernel_rfl) rfl #[.agg #[.int .u64 a3_0, .int .u64 a3_1], .agg #[.int .u64 a2_0, .int .u64 a2_1], .bool (x0_4 == 48)] rfl (by (try simp only [List.map_toArray, List.map_cons, List.map_nil]); first | done | rfl | (simp only [List.length_drop, List.length_take]; rfl)) ?_; (with_reducible refine (span_less.calls a3_0 a3_1 a2_0 a2_1 (x0_4 == 48) t192 t193 t194 t195 t196 _ A73.out).mono ?_); rintro e w81 ⟨rfl, hb⟩; refine ⟨_, rfl, ?_⟩; have n0_ := Aside0.mk (blk_below (g := gb174) (o := .cells #[.int .u64 a2_0, .int .u64 a2_1] 58 (0, 0)) (by (with_reducible repeat (first | apply bN | apply bD | apply bA)); exact BK174.out) hb); have n1_ := Aside0.mk (blk_below (g := gb175) (o := .cells #[.int .u64 a3_0, .int .u64 a3_1] 58 (0, 0)) (by (with_reducible repeat (first | apply bN | apply bD | apply bA)); exact BK175.out) hb); have n2_ := Aside0.mk (blk_below (g := gb176) (o := .cells #[.int .u64 x177000_4, .int .u64 x177001_4] 58 (0, 0)) (by (with_reducible repeat (first | apply bN | apply bD | apply bA)); exact BK176.out) hb); have n3_ := Aside0.mk (blk_below (g := gb177) (o := .cells #[.int .u64 x178000_4, .int .u64 x178001_4] 58 (0, 0)) (by (with_reducible repeat (first | apply bN | apply bD | apply bA)); exact BK177.out) hb); have n4_ := Aside0.mk (below_step (by repeat (first | (with_reducible first | exact HB.out | apply lA | apply lN | apply lD | refine lS ?_ ‹_›) | exact HB.out)) hb); clear BK174; clear BK175; clear BK176; clear BK177; clear HB; have BK174 := n0_; have BK175 := n1_; have BK176 := n2_; have BK177 := n3_; have HB := n4_; clear n0_ n1_ n2_ n3_ n4_; (try clear hb); (try clear hb2); (try clear hk); (try clear hi)) | ((with_reducible refine gate_dst (N := 13) rfl ?_); refine box_event ?hg (N := 13) ?hd (cs := #[.int .u64 0, .int .u64 0]) (t := 58) ?hr ?_; (case hd => rfl); (case hg => rfl); (case hr => first | (go_simp; done) | (go_simp; rfl)); intro gb197 hg w82 hbox hb; have n0_ := Aside0.mk (blk_below (g := gb174) (o := .cells #[.int .u64 a2_0, .int .u64 a2_1] 58 (0, 0)) (by (with_reducible repeat (first | apply bN | apply bD | apply bA)); exact BK174.out) hb); have n1_ := Aside0.mk (blk_below (g := gb175) (o := .cells #[.int .u64 a3_0, .int .u64 a3_1] 58 (0, 0)) (by (with_reducible repeat (first | apply bN | apply bD | apply bA)); exact BK175.out) hb); have n2_ := Aside0.mk (blk_below (g := gb176) (o := .cells #[.int .u64 x177000_4, .int .u64 x177001_4] 58 (0, 0)) (by (with_reducible repeat (first | apply bN | apply bD | apply bA)); exact BK176.out) hb); have n3_ := Aside0.mk (blk_below (g := gb177) (o := .cells #[.int .u64 x178000_4, .int .u64 x178001_4] 58 (0, 0)) (by (with_reducible repeat (first | apply bN | apply bD | apply bA)); exact BK177.out) hb); have n4_ := Aside0.mk (below_step (by repeat (first | (with_reducible first | exact HB.out | apply lA | apply lN | apply lD | refine lS ?_ ‹_›) | exact HB.out)) hb); have n5_ := Aside0.mk (hbox); have n6_ := Aside0.mk ((by rw [hg]; exact (below_size (by repeat (first | (with_reducible first | exact HB.out | apply lA | apply lN | apply lD | refine lS ?_ ‹_›) | exact HB.out))) : w.heap.size ≤ gb197)); have n7_ := n6_; have n8_ := Aside0.mk ((by rw [hg]; exact Nat.ne_of_lt (blk_lt (g := gb174) (o := .cells #[.int .u64 a2_0, .int .u64 a2_1] 58 (0, 0)) (by (with_reducible repeat (first | apply bN | apply bD | apply bA)); exact BK174.out)) : gb174 ≠ gb197)); have n9_ := sy n8_; have n10_ := Aside0.mk ((by rw [hg]; exact Nat.ne_of_lt (blk_lt (g := gb175) (o := .cells #[.int .u64 a3_0, .int .u64 a3_1] 58 (0, 0)) (by (with_reducible repeat (first | apply bN | apply bD | apply bA)); exact BK175.out)) : gb175 ≠ gb197)); have n11_ := sy n10_; have n12_ := Aside0.mk ((by rw [hg]; exact Nat.ne_of_lt (blk_lt (g := gb176) (o := .cells #[.int .u64 x177000_4, .int .u64 x177001_4] 58 (0, 0)) (by (with_reducible repeat (first | apply bN | apply bD | apply bA)); exact BK176.out)) : gb176 ≠ gb197)); have n13_ := sy n12_; have n14_ := Aside0.mk ((by rw [hg]; exact Nat.ne_of_lt (blk_lt (g := gb177) (o := .cells #[.int .u64 x178000_4, .int .u64 x178001_4] 58 (0, 0)) (by (with_reducible repeat (first | apply bN | apply bD | apply bA)); exact BK177.out)) : gb177 ≠ gb197)); have n15_ := sy n14_; clear BK174; clear BK175; clear BK176; clear BK177; clear HB; have BK174 := n0_; have BK175 := n1_; have BK176 := n2_; have BK177 := n3_; have HB := n4_; have BK197 := n5_; have GW197 := n6_; have GE197 := n7_; have NB174_197 := n8_; have NB197_174 := n9_; have NB175_197 := n10_; have NB197_175 := n11_; have NB176_197 := n12_; have NB197_176 := n13_; have NB177_197 := n14_; have NB197_177 := n15_; clear n0_ n1_ n2_ n3_ n4_ n5_ n6_ n7_ n8_ n9_ n10_ n11_ n12_ n13_ n14_ n15_; clear hb hbox hg) | ((with_reducible refine gate_dst (N := 14) rfl ?_); refine box_event ?hg (N := 14) ?hd (cs := #[.int .u64 0, .int .u64 0]) (t := 58) ?hr ?_; (case hd => rfl); (case hg => rfl); (case hr => first | (go_simp; done) | (go_simp; rfl)); intro gb198 hg w83 hbox hb; have n0_ := Aside0.mk (blk_below (g := gb174) (o := .cells #[.int .u64 a2_0, .int .u64 a2_1] 58 (0, 0)) (by (with_reducible repeat (first | apply bN | apply bD | apply bA)); exact BK174.out) hb); have n1_ := Aside0.mk (blk_below (g := gb175) (o := .cells #[.int .u64 a3_0, .int .u64 a3_1] 58 (0, 0)) (by (with_reducible repeat (first | apply bN | apply bD | apply bA)); exact BK175.out) hb); have n2_ := Aside0.mk (blk_below (g := gb176) (o := .cells #[.int .u64 x177000_4, .int .u64 x177001_4] 58 (0, 0)) (by (with_reducible repeat (first | apply bN | apply bD | apply bA)); exact BK176.out) hb); have n3_ := Aside0.mk (blk_below (g := gb177) (o := .cells #[.int .u64 x178000_4, .int .u64 x178001_4] 58 (0, 0)) (by (with_reducible repeat (first | apply bN | apply bD | apply bA)); exact BK177.out) hb); have n4_ := Aside0.mk (blk_below (g := gb197) (o := .cells #[.int .u64 0, .int .u64 0] 58 (0, 0)) (by (with_reducible repeat (first | apply bN | apply bD | apply bA)); exact BK197.out) hb); have n5_ := Aside0.mk (below_step (by repeat (first | (with_reducible first | exact HB.out | apply lA | apply lN | apply lD | refine lS ?_ ‹_›) | exact HB.out)) hb); have n6_ := Aside0.mk (hbox); have n7_ := Aside0.mk ((by rw [hg]; exact (below_size (by repeat (first | (with_reducible first | exact HB.out | apply lA | apply lN | apply lD | refine lS ?_ ‹_›) | exact HB.out))) : w.heap.size ≤ gb198)); have n8_ := n7_; have n9_ := Aside0.mk ((by rw [hg]; exact Nat.ne_of_lt (blk_lt (g := gb174) (o := .cells #[.int .u64 a2_0, .int .u64 a2_1] 58 (0, 0)) (by (with_reducible repeat (first | apply bN | apply bD | apply bA)); exact BK174.out)) : gb174 ≠ gb198)); have n10_ := sy n9_; have n11_ := Aside0.mk ((by rw [hg]; exact Nat.ne_of_lt (blk_lt (g := gb175) (o := .cells #[.int .u64 a3_0, .int .u64 a3_1] 58 (0, 0)) (by (with_reducible repeat (first | apply bN | apply bD | apply bA)); exact BK175.out)) : gb175 ≠ gb198)); have n12_ := sy n11_; have n13_ := Aside0.mk ((by rw [hg]; exact Nat.ne_of_lt (blk_lt (g := gb176) (o := .cells #[.int .u64 x177000_4, .int .u64 x177001_4] 58 (0, 0)) (by (with_reducible repeat (first | apply bN | apply bD | apply bA)); exact BK176.out)) : gb176 ≠ gb198)); have n14_ := sy n13_; have n15_ := Aside0.mk ((by rw [hg]; exact Nat.ne_of_lt (blk_lt (g := gb177) (o := .cells #[.int .u64 x178000_4, .int .u64 x178001_4] 58 (0, 0)) (by (with_reducible repeat (first | apply bN | apply bD | apply bA)); exact BK177.out)) : gb177 ≠ gb198)); have n16_ := sy n15_; have n17_ := Aside0.mk ((by rw [hg]; exact Nat.ne_of_lt (blk_lt (g := gb197) (o := .cells #[.int .u64 0, .int .u64 0] 58 (0, 0)) (by (with_reducible repeat (first | apply bN | apply bD | apply bA)); exact BK197.out)) : gb197 ≠ gb198)); have n18_ := sy n17_; clear BK174; clear BK175; clear BK176; clear BK177; clear BK197; clear HB; have BK174 := n0_; have BK175 := n1_; have BK176 := n2_; have BK177 := n3_; have BK197 := n4_; have HB := n5_; have BK198 := n6_; have GW198 := n7_; have GE198 := n8_; have NB174_198 := n9_; have NB198_174 := n10_; have NB175_198 := n11_; have NB198_175 := n12_; have NB176_198 := n13_; have NB198_176 := n14_; have NB177_198 := n15_; have NB198_177 := n16_; have NB197_198 := n17_; have NB198_197 := n18_; clear n0_ n1_ n2_ n3_ n4_ n5_ n6_ n7_ n8_ n9_ n10_ n11_ n12_ n13_ n14_ n15_ n16_ n17_ n18_; clear hb hbox hg; have hnb84 := NB197_174.out; have hnc84 := NB174_197.out; have hnb85 := NB197_175.out; have hnc85 := NB175_197.out; have hnb86 := NB197_176.out; have hnc86 := NB176_197.out; have hnb87 := NB197_177.out; have hnc87 := NB177_197.out; have hnb88 := NB197_198.out; have hnc88 := NB198_197.out; have hcz89_0 : w83.cell? ⟨gb197, 0, none⟩ = some (.int .u64 0) := (blk_cell BK197.out 0).trans rfl; have hcz89_1 : w83.cell? ⟨gb197, 1, none⟩ = some (.int .u64 0) := (blk_cell BK197.out 1).trans rfl; have hfz89_0 := blk_frozen BK197.out 0; have hfz89_1 := blk_frozen BK197.out 1; have hnb90 := NB198_174.out; have hnc90 := NB174_198.out; have hnb91 := NB198_175.out; have hnc91 := NB175_198.out; have hnb92 := NB198_176.out; have hnc92 := NB176_198.out; have hnb93 := NB198_177.out; have hnc93 := NB177_198.out; have hcz94_0 : w83.cell? ⟨gb198, 0, none⟩ = some (.int .u64 0) := (blk_cell BK198.out 0).trans rfl; have hcz94_1 : w83.cell? ⟨gb198, 1, none⟩ = some (.int .u64 0) := (blk_cell BK198.out 1).trans rfl; have hfz94_0 := blk_frozen BK198.out 0; have hfz94_1 := blk_frozen BK198.out 1))
         have n0_ : Aside0 (((((w83.setCell ⟨gb197, 0, none⟩ (.int .u64 t192)).setCell ⟨gb197, 1, none⟩ (.int .u64 t193)).setCell ⟨gb198, 0, none⟩ (.int .u64 t194)).setCell ⟨gb198, 1, none⟩ (.int .u64 t195)).heap[gb174]? = some (.cells #[.int .u64 a2_0, .int .u64 a2_1] 58 (0, 0))) := ⟨by (with_reducible repeat (first | apply bN | apply bD | apply bA)); refine blk_far ?_ NB174_198.out _; (with_reducible repeat (first | apply bN | apply bD | apply bA)); refine blk_far ?_ NB174_198.out _; (with_reducible repeat (first | apply bN | apply bD | apply bA)); refine blk_far ?_ NB174_197.out _; (with_reducible repeat (first | apply bN | apply bD | apply bA)); refine blk_far ?_ NB174_197.out _; (with_reducible repeat (first | apply bN | apply bD | apply bA)); exact BK174.out⟩
         have n1_ : Aside0 (((((w83.setCell ⟨gb197, 0, none⟩ (.int .u64 t192)).setCell ⟨gb197, 1, none⟩ (.int .u64 t193)).setCell ⟨gb198, 0, none⟩ (.int .u64 t194)).setCell ⟨gb198, 1, none⟩ (.int .u64 t195)).heap[gb175]? = some (.cells #[.int .u64 a3_0, .int .u64 a3_1] 58 (0, 0))) := ⟨by (with_reducible repeat (first | apply bN | apply bD | apply bA)); refine blk_far ?_ NB175_198.out _; (with_reducible repeat (first | apply bN | apply bD | apply bA)); refine blk_far ?_ NB175_198.out _; (with_reducible repeat (first | apply bN | apply bD | apply bA)); refine blk_far ?_ NB175_197.out _; (with_reducible repeat (first | apply bN | apply bD | apply bA)); refine blk_far ?_ NB175_197.out _; (with_reducible repeat (first | apply bN | apply bD | apply bA)); exact BK175.out⟩
         have n2_ : Aside0 (((((w83.setCell ⟨gb197, 0, none⟩ (.int .u64 t192)).setCell ⟨gb197, 1, none⟩ (.int .u64 t193)).setCell ⟨gb198, 0, none⟩ (.int .u64 t194)).setCell ⟨gb198, 1, none⟩ (.int .u64 t195)).heap[gb176]? = some (.cells #[.int .u64 x177000_4, .int .u64 x177001_4] 58 (0, 0))) := ⟨by (with_reducible repeat (first | apply bN | apply bD | apply bA)); refine blk_far ?_ NB176_198.out _; (with_reducible repeat (first | apply bN | apply bD | apply bA)); refine blk_far ?_ NB176_198.out _; (with_reducible repeat (first | apply bN | apply bD | apply bA)); refine blk_far ?_ NB176_197.out _; (with_reducible repeat (first | apply bN | apply bD | apply bA)); refine blk_far ?_ NB176_197.out _; (with_reducible repeat (first | apply bN | apply bD | apply bA)); exact BK176.out⟩
         have n3_ : Aside0 (((((w83.setCell ⟨gb197, 0, none⟩ (.int .u64 t192)).setCell ⟨gb197, 1, none⟩ (.int .u64 t193)).setCell ⟨gb198, 0, none⟩ (.int .u64 t194)).setCell ⟨gb198, 1, none⟩ (.int .u64 t195)).heap[gb177]? = some (.cells #[.int .u64 x178000_4, .int .u64 x178001_4] 58 (0, 0))) := ⟨by (with_reducible repeat (first | apply bN | apply bD | apply bA)); refine blk_far ?_ NB177_198.out _; (with_reducible repeat (first | apply bN | apply bD | apply bA)); refine blk_far ?_ NB177_198.out _; (with_reducible repeat (first | apply bN | apply bD | apply bA)); refine blk_far ?_ NB177_197.out _; (with_reducible repeat (first | apply bN | apply bD | apply bA)); refine blk_far ?_ NB177_197.out _; (with_reducible repeat (first | apply bN | apply bD | apply bA)); exact BK177.out⟩
         have n4_ : Aside0 (((((w83.setCell ⟨gb197, 0, none⟩ (.int .u64 t192)).setCell ⟨gb197, 1, none⟩ (.int .u64 t193)).setCell ⟨gb198, 0, none⟩ (.int .u64 t194)).setCell ⟨gb198, 1, none⟩ (.int .u64 t195)).heap[gb197]? = some (.cells #[.int .u64 t192, .int .u64 t193] 58 (0, 0))) := ⟨by (with_reducible repeat (first | apply bN | apply bD | apply bA)); refine blk_far ?_ NB197_198.out _; (with_reducible repeat (first | apply bN | apply bD | apply bA)); refine blk_far ?_ NB197_198.out _; (with_reducible repeat (first | apply bN | apply bD | apply bA)); refine blk_put (cs := #[.int .u64 t192, .int .u64 0]) ?_ 1 _ rfl; (with_reducible repeat (first | apply bN | apply bD | apply bA)); refine blk_put (cs := #[.int .u64 0, .int .u64 0]) ?_ 0 _ rfl; (with_reducible repeat (first | apply bN | apply bD | apply bA)); exact BK197.out⟩
         have n5_ : Aside0 (((((w83.setCell ⟨gb197, 0, none⟩ (.int .u64 t192)).setCell ⟨gb197, 1, none⟩ (.int .u64 t193)).setCell ⟨gb198, 0, none⟩ (.int .u64 t194)).setCell ⟨gb198, 1, none⟩ (.int .u64 t195)).heap[gb198]? = some (.cells #[.int .u64 t194, .int .u64 t195] 58 (0, 0))) := ⟨by (with_reducible repeat (first | apply bN | apply bD | apply bA)); refine blk_put (cs := #[.int .u64 t194, .int .u64 0]) ?_ 1 _ rfl; (with_reducible repeat (first | apply bN | apply bD | apply bA)); refine blk_put (cs := #[.int .u64 0, .int .u64 0]) ?_ 0 _ rfl; (with_reducible repeat (first | apply bN | apply bD | apply bA)); refine blk_far ?_ NB198_197.out _; (with_reducible repeat (first | apply bN | apply bD | apply bA)); refine blk_far ?_ NB198_197.out _; (with_reducible repeat (first | apply bN | apply bD | apply bA)); exact BK198.out⟩
         have n6_ : Aside0 (Below w.heap.size w ((((w83.setCell ⟨gb197, 0, none⟩ (.int .u64 t192)).setCell ⟨gb197, 1, none⟩ (.int .u64 t193)).setCell ⟨gb198, 0, none⟩ (.int .u64 t194)).setCell ⟨gb198, 1, none⟩ (.int .u64 t195))) := ⟨by repeat (first | (with_reducible first | exact HB.out | apply lA | apply lN | apply lD | refine lS ?_ ‹_›) | exact HB.out)⟩
         (try clear BK174)
         (try clear BK175)
         (try clear BK176)
         (try clear BK177)
         (try clear BK197)
         (try clear BK198)
         (try clear HB)
         generalize ((((w83.setCell ⟨gb197, 0, none⟩ (.int .u64 t192)).setCell ⟨gb197, 1, none⟩ (.int .u64 t193)).setCell ⟨gb198, 0, none⟩ (.int .u64 t194)).setCell ⟨gb198, 1, none⟩ (.int .u64 t195)) = w95 at n0_ n1_ n2_ n3_ n4_ n5_ n6_ ⊢
         have BK174 := n0_; have BK175 := n1_; have BK176 := n2_; have BK177 := n3_; have BK197 := n4_; have BK198 := n5_; have HB := n6_; clear n0_ n1_ n2_ n3_ n4_ n5_ n6_; have n0_ := Aside0.mk (blk_drew BK174.out); have n1_ := Aside0.mk (blk_drew BK175.out); have n2_ := Aside0.mk (blk_drew BK176.out); have n3_ := Aside0.mk (blk_drew BK177.out); have n4_ := Aside0.mk (blk_drew BK197.out); have n5_ := Aside0.mk (blk_drew BK198.out)
         have n6_ := Aside0.mk (below_drew1 HB.out)
         clear BK174; clear BK175; clear BK176; clear BK177; clear BK197; clear BK198; clear HB; have BK174 := n0_; have BK175 := n1_; have BK176 := n2_; have BK177 := n3_; have BK197 := n4_; have BK198 := n5_; have HB := n6_; clear n0_ n1_ n2_ n3_ n4_ n5_ n6_
         refine start_ (n := 6) (S := fun w' => w'.cell? ⟨gb198, 0, none⟩ = some (.int .u64 t194) ∧ w'.cell? ⟨gb198, 1, none⟩ = some (.int .u64 t195) ∧ w'.cell? ⟨gb197, 0, none⟩ = some (.int .u64 t192) ∧ w'.cell? ⟨gb197, 1, none⟩ = some (.int .u64 t193)) (ds := []) #[false, false, false, false, false, false] (by kernel_rfl) rfl rfl ⟨(blk_cell BK198.out 0).trans rfl, (blk_cell BK198.out 1).trans rfl, (blk_cell BK197.out 0).trans rfl, (blk_cell BK197.out 1).trans rfl⟩ (fun hHeld => ?_)
         generalize w95.drew = w96 at BK174 BK175 BK176 BK177 BK197 BK198 HB hHeld ⊢
         refine pure_ (i := 2) (N := some 78) (v := ?_) (a' := ?_) #[false, false, true, false, false, false] rfl rfl (by kernel_rfl) (fun _ _ _ h => h) (Or.inl ⟨by rfl, ?_⟩) ?_ ?_
         rotate_left
         ·
          intro w'
          go_simp; with_reducible rfl
         rotate_left
         ·
          simp only [Act.put, List.setIfInBounds_toArray, List.set_cons_zero, List.set_cons_succ, i64_w, i32_w]
          rfl
         refine take_ (i := 0) (N := some 76) (v := ?_) (a' := ?_) #[true, false, true, false, false, false] rfl rfl (by kernel_rfl) (fun _ _ _ h => h) (Or.inl ⟨by rfl, ?_⟩) hHeld ?_ ?_
         rotate_left
         ·
          rintro w' ⟨s0, s1, s2, s3⟩
          go_simp; with_reducible rfl
         rotate_left
         ·
          simp only [Act.put, List.setIfInBounds_toArray, List.set_cons_zero, List.set_cons_succ, i64_w, i32_w]
          rfl
         refine take_ (i := 1) (N := some 77) (v := ?_) (a' := ?_) #[true, true, true, false, false, false] rfl rfl (by kernel_rfl) (fun _ _ _ h => h) (Or.inl ⟨by rfl, ?_⟩) hHeld ?_ ?_
         rotate_left
         ·
          rintro w' ⟨s0, s1, s2, s3⟩
          go_simp; with_reducible rfl
         rotate_left
         ·
          simp only [Act.put, List.setIfInBounds_toArray, List.set_cons_zero, List.set_cons_succ, i64_w, i32_w]
          rfl
         refine one_ (i := 3) (N := none) #[true, true, true, true, false, false] rfl rfl (by kernel_rfl) (by decide) (fun K hK => ?_)
         have hs97 : w96.cell? ⟨gb176, 0, none⟩ = some (.int .u64 x177000_4) := (blk_cell BK176.out 0).trans rfl
         have hfs97 := blk_frozen BK176.out 0
         have hns97_0 := NB174_176.out
         have hns97_1 := NB175_176.out
         have hns97_3 := NB177_176.out
         have hns97_4 := NB197_176.out
         have hns97_5 := NB198_176.out
         have hms97_0 := NB176_174.out
         have hms97_1 := NB176_175.out
         have hms97_3 := NB176_177.out
         have hms97_4 := NB176_197.out
         have hms97_5 := NB176_198.out
         have hs98 : w96.cell? ⟨gb176, 1, none⟩ = some (.int .u64 x177001_4) := (blk_cell BK176.out 1).trans rfl
         have hfs98 := blk_frozen BK176.out 1
         have hns98_0 := NB174_176.out
         have hns98_1 := NB175_176.out
         have hns98_3 := NB177_176.out
         have hns98_4 := NB197_176.out
         have hns98_5 := NB198_176.out
         have hms98_0 := NB176_174.out
         have hms98_1 := NB176_175.out
         have hms98_3 := NB176_177.out
         have hms98_4 := NB176_197.out
         have hms98_5 := NB176_198.out
         refine skip_ (w1 := ?_) (by rfl) rfl ?_ ?_
         rotate_left
         ·
          go_simp
          rfl
         refine hK.out _ _ ⟨((cell_far (p := ⟨gb176, _, none⟩) NB198_176.out _).trans (((cell_far (p := ⟨gb176, _, none⟩) NB198_176.out _).trans (hHeld.1)))), ((cell_far (p := ⟨gb176, _, none⟩) NB198_176.out _).trans (((cell_far (p := ⟨gb176, _, none⟩) NB198_176.out _).trans (hHeld.2.1)))), ((cell_far (p := ⟨gb176, _, none⟩) NB197_176.out _).trans (((cell_far (p := ⟨gb176, _, none⟩) NB197_176.out _).trans (hHeld.2.2.1)))), ((cell_far (p := ⟨gb176, _, none⟩) NB197_176.out _).trans (((cell_far (p := ⟨gb176, _, none⟩) NB197_176.out _).trans (hHeld.2.2.2))))⟩ (fun hHeld => ?_)
         clear hK K
         refine one_ (i := 4) (N := none) #[true, true, true, true, true, false] rfl rfl (by kernel_rfl) (by decide) (fun K hK => ?_)
         have hs99 : w96.cell? ⟨gb177, 0, none⟩ = some (.int .u64 x178000_4) := (blk_cell BK177.out 0).trans rfl
         have hfs99 := blk_frozen BK177.out 0
         have hns99_0 := NB174_177.out
         have hns99_1 := NB175_177.out
         have hns99_2 := NB176_177.out
         have hns99_4 := NB197_177.out
         have hns99_5 := NB198_177.out
         have hms99_0 := NB177_174.out
         have hms99_1 := NB177_175.out
         have hms99_2 := NB177_176.out
         have hms99_4 := NB177_197.out
         have hms99_5 := NB177_198.out
         have hs100 : w96.cell? ⟨gb177, 1, none⟩ = some (.int .u64 x178001_4) := (blk_cell BK177.out 1).trans rfl
         have hfs100 := blk_frozen BK177.out 1
         have hns100_0 := NB174_177.out
         have hns100_1 := NB175_177.out
         have hns100_2 := NB176_177.out
         have hns100_4 := NB197_177.out
         have hns100_5 := NB198_177.out
         have hms100_0 := NB177_174.out
         have hms100_1 := NB177_175.out
         have hms100_2 := NB177_176.out
         have hms100_4 := NB177_197.out
         have hms100_5 := NB177_198.out
         refine skip_ (w1 := ?_) (by rfl) rfl ?_ ?_
         rotate_left
         ·
          go_simp
          rfl
         refine hK.out _ _ ⟨((cell_far (p := ⟨gb177, _, none⟩) NB198_177.out _).trans (((cell_far (p := ⟨gb177, _, none⟩) NB198_177.out _).trans (hHeld.1)))), ((cell_far (p := ⟨gb177, _, none⟩) NB198_177.out _).trans (((cell_far (p := ⟨gb177, _, none⟩) NB198_177.out _).trans (hHeld.2.1)))), ((cell_far (p := ⟨gb177, _, none⟩) NB197_177.out _).trans (((cell_far (p := ⟨gb177, _, none⟩) NB197_177.out _).trans (hHeld.2.2.1)))), ((cell_far (p := ⟨gb177, _, none⟩) NB197_177.out _).trans (((cell_far (p := ⟨gb177, _, none⟩) NB197_177.out _).trans (hHeld.2.2.2))))⟩ (fun hHeld => ?_)
         clear hK K
         refine pure_ (i := 5) (N := some 10) (v := ?_) (a' := ?_) #[true, true, true, true, true, true] rfl rfl (by kernel_rfl) (fun _ _ _ h => h) (Or.inl ⟨by rfl, ?_⟩) ?_ ?_
         rotate_left
         ·
          intro w'
          go_simp; with_reducible rfl
         rotate_left
         ·
          simp only [Act.put, List.setIfInBounds_toArray, List.set_cons_zero, List.set_cons_succ, i64_w, i32_w]
          rfl
         refine done_ (by kernel_rfl) ?_
         try go_wp2
         refine bodyPost_ret (results_list (rs := [.cell 8 58, .cell 9 58, .tmp 10]) rfl (by simp) (.cell gb176 58 #[.int .u64 t194, .int .u64 t195] (0, 0) _ rfl (by (with_reducible repeat (first | apply bN | apply bD | apply bA)); refine blk_far ?_ NB176_177.out _; (with_reducible repeat (first | apply bN | apply bD | apply bA)); refine blk_far ?_ NB176_177.out _; (with_reducible repeat (first | apply bN | apply bD | apply bA)); refine blk_put (cs := #[.int .u64 t194, .int .u64 x177001_4]) ?_ 1 _ rfl; (with_reducible repeat (first | apply bN | apply bD | apply bA)); refine blk_put (cs := #[.int .u64 x177000_4, .int .u64 x177001_4]) ?_ 0 _ rfl; (with_reducible repeat (first | apply bN | apply bD | apply bA)); exact BK176.out) Try.underlying58 rfl (by kernel_rfl) (.cell gb177 58 #[.int .u64 t192, .int .u64 t193] (0, 0) _ rfl (by (with_reducible repeat (first | apply bN | apply bD | apply bA)); refine blk_put (cs := #[.int .u64 t192, .int .u64 x178001_4]) ?_ 1 _ rfl; (with_reducible repeat (first | apply bN | apply bD | apply bA)); refine blk_put (cs := #[.int .u64 x178000_4, .int .u64 x178001_4]) ?_ 0 _ rfl; (with_reducible repeat (first | apply bN | apply bD | apply bA)); refine blk_far ?_ NB177_176.out _; (with_reducible repeat (first | apply bN | apply bD | apply bA)); refine blk_far ?_ NB177_176.out _; (with_reducible repeat (first | apply bN | apply bD | apply bA)); exact BK177.out) Try.underlying58 rfl (by kernel_rfl) (.tmp .nil)))) rfl ?_
         exact ⟨by first | rfl | (simp [errW_none, errW_some] <;> rfl) | (simp [*, errW_none, errW_some] <;> rfl), by repeat (first | (with_reducible first | exact HB.out | apply lA | apply lN | apply lD | refine lS ?_ ‹_›) | exact HB.out)⟩
        ·
         rw [if_neg c72] at H
         have c72b0 : (x0_4 == 32) = false := beq_eq_false_iff_ne.mpr c72; have c72b1 : (x0_4 != 32) = true := bne_iff_ne.mpr c72
         by_cases c101 : x0_4 = 48
         ·
          rw [if_pos c101] at H
          have c101b0 : (x0_4 == 48) = true := beq_iff_eq.mpr c101; have c101b1 : (x0_4 != 48) = false := bne_eq_false_iff_eq.mpr c101; clear c101; replace H := Option.bind_eq_some_iff.mp H; obtain ⟨⟨t199, t200, t201, t202, t203⟩, A1020, H⟩ := H
          replace H : (some (t201, t202, t199, t200, t203)) = some (r1, r2, r3, r4, r5) := H
          have A102 := Aside0.mk A1020; clear A1020; simp only [Option.some.injEq, Prod.mk.injEq] at H; obtain ⟨rfl, rfl, rfl, rfl, rfl⟩ := H; have hnb103 := NB175_174.out; have hnc103 := NB174_175.out; have hnb104 := NB175_176.out; have hnc104 := NB176_175.out; have hnb105 := NB175_177.out; have hnc105 := NB177_175.out; have hcz106_0 : wc.cell? ⟨gb175, 0, none⟩ = some (.int .u64 a3_0) := (blk_cell BK175.out 0).trans rfl; have hcz106_1 : wc.cell? ⟨gb175, 1, none⟩ = some (.int .u64 a3_1) := (blk_cell BK175.out 1).trans rfl; have hfz106_0 := blk_frozen BK175.out 0; have hfz106_1 := blk_frozen BK175.out 1; have hnb107 := NB174_176.out; have hnc107 := NB176_174.out; have hnb108 := NB174_177.out; have hnc108 := NB177_174.out; have hcz109_0 : wc.cell? ⟨gb174, 0, none⟩ = some (.int .u64 a2_0) := (blk_cell BK174.out 0).trans rfl; have hcz109_1 : wc.cell? ⟨gb174, 1, none⟩ = some (.int .u64 a2_1) := (blk_cell BK174.out 1).trans rfl; have hfz109_0 := blk_frozen BK174.out 0; have hfz109_1 := blk_frozen BK174.out 1
          have z_ := A102.out; rw [c101b0] at z_; replace A102 := Aside0.mk z_; clear z_
          try go_wp2_with (first | ((with_reducible refine gate_callee (f := 64) rfl ?_); refine goesL_ (some 72) rfl rfl Try.func64 (by kernel_rfl) rfl #[.agg #[.int .u64 a3_0, .int .u64 a3_1], .agg #[.int .u64 a2_0, .int .u64 a2_1], .bool true] rfl (by (try simp only [List.map_toArray, List.map_cons, List.map_nil]); first | done | rfl | (simp only [List.length_drop, List.length_take]; rfl)) ?_; (with_reducible refine (span_less.calls a3_0 a3_1 a2_0 a2_1 true t199 t200 t201 t202 t203 _ A102.out).mono ?_); rintro e w110 ⟨rfl, hb⟩; refine ⟨_, rfl, ?_⟩; have n0_ := Aside0.mk (blk_below (g := gb174) (o := .cells #[.int .u64 a2_0, .int .u64 a2_1] 58 (0, 0)) (by (with_reducible repeat (first | apply bN | apply bD | apply bA)); exact BK174.out) hb); have n1_ := Aside0.mk (blk_below (g := gb175) (o := .cells #[.int .u64 a3_0, .int .u64 a3_1] 58 (0, 0)) (by (with_reducible repeat (first | apply bN | apply bD | apply bA)); exact BK175.out) hb); have n2_ := Aside0.mk (blk_below (g := gb176) (o := .cells #[.int .u64 x177000_4, .int .u64 x177001_4] 58 (0, 0)) (by (with_reducible repeat (first | apply bN | apply bD | apply bA)); exact BK176.out) hb); have n3_ := Aside0.mk (blk_below (g := gb177) (o := .cells #[.int .u64 x178000_4, .int .u64 x178001_4] 58 (0, 0)) (by (with_reducible repeat (first | apply bN | apply bD | apply bA)); exact BK177.out) hb); have n4_ := Aside0.mk (below_step (by repeat (first | (with_reducible first | exact HB.out | apply lA | apply lN | apply lD | refine lS ?_ ‹_›) | exact HB.out)) hb); clear BK174; clear BK175; clear BK176; clear BK177; clear HB; have BK174 := n0_; have BK175 := n1_; have BK176 := n2_; have BK177 := n3_; have HB := n4_; clear n0_ n1_ n2_ n3_ n4_; (try clear hb); (try clear hb2); (try clear hk); (try clear hi)) | ((with_reducible refine gate_dst (N := 13) rfl ?_); refine box_event ?hg (N := 13) ?hd (cs := #[.int .u64 0, .int .u64 0]) (t := 58) ?hr ?_; (case hd => rfl); (case hg => rfl); (case hr => first | (go_simp; done) | (go_simp; rfl)); intro gb204 hg w111 hbox hb; have n0_ := Aside0.mk (blk_below (g := gb174) (o := .cells #[.int .u64 a2_0, .int .u64 a2_1] 58 (0, 0)) (by (with_reducible repeat (first | apply bN | apply bD | apply bA)); exact BK174.out) hb); have n1_ := Aside0.mk (blk_below (g := gb175) (o := .cells #[.int .u64 a3_0, .int .u64 a3_1] 58 (0, 0)) (by (with_reducible repeat (first | apply bN | apply bD | apply bA)); exact BK175.out) hb); have n2_ := Aside0.mk (blk_below (g := gb176) (o := .cells #[.int .u64 x177000_4, .int .u64 x177001_4] 58 (0, 0)) (by (with_reducible repeat (first | apply bN | apply bD | apply bA)); exact BK176.out) hb); have n3_ := Aside0.mk (blk_below (g := gb177) (o := .cells #[.int .u64 x178000_4, .int .u64 x178001_4] 58 (0, 0)) (by (with_reducible repeat (first | apply bN | apply bD | apply bA)); exact BK177.out) hb); have n4_ := Aside0.mk (below_step (by repeat (first | (with_reducible first | exact HB.out | apply lA | apply lN | apply lD | refine lS ?_ ‹_›) | exact HB.out)) hb); have n5_ := Aside0.mk (hbox); have n6_ := Aside0.mk ((by rw [hg]; exact (below_size (by repeat (first | (with_reducible first | exact HB.out | apply lA | apply lN | apply lD | refine lS ?_ ‹_›) | exact HB.out))) : w.heap.size ≤ gb204)); have n7_ := n6_; have n8_ := Aside0.mk ((by rw [hg]; exact Nat.ne_of_lt (blk_lt (g := gb174) (o := .cells #[.int .u64 a2_0, .int .u64 a2_1] 58 (0, 0)) (by (with_reducible repeat (first | apply bN | apply bD | apply bA)); exact BK174.out)) : gb174 ≠ gb204)); have n9_ := sy n8_; have n10_ := Aside0.mk ((by rw [hg]; exact Nat.ne_of_lt (blk_lt (g := gb175) (o := .cells #[.int .u64 a3_0, .int .u64 a3_1] 58 (0, 0)) (by (with_reducible repeat (first | apply bN | apply bD | apply bA)); exact BK175.out)) : gb175 ≠ gb204)); have n11_ := sy n10_; have n12_ := Aside0.mk ((by rw [hg]; exact Nat.ne_of_lt (blk_lt (g := gb176) (o := .cells #[.int .u64 x177000_4, .int .u64 x177001_4] 58 (0, 0)) (by (with_reducible repeat (first | apply bN | apply bD | apply bA)); exact BK176.out)) : gb176 ≠ gb204)); have n13_ := sy n12_; have n14_ := Aside0.mk ((by rw [hg]; exact Nat.ne_of_lt (blk_lt (g := gb177) (o := .cells #[.int .u64 x178000_4, .int .u64 x178001_4] 58 (0, 0)) (by (with_reducible repeat (first | apply bN | apply bD | apply bA)); exact BK177.out)) : gb177 ≠ gb204)); have n15_ := sy n14_; clear BK174; clear BK175; clear BK176; clear BK177; clear HB; have BK174 := n0_; have BK175 := n1_; have BK176 := n2_; have BK177 := n3_; have HB := n4_; have BK204 := n5_; have GW204 := n6_; have GE204 := n7_; have NB174_204 := n8_; have NB204_174 := n9_; have NB175_204 := n10_; have NB204_175 := n11_; have NB176_204 := n12_; have NB204_176 := n13_; have NB177_204 := n14_; have NB204_177 := n15_; clear n0_ n1_ n2_ n3_ n4_ n5_ n6_ n7_ n8_ n9_ n10_ n11_ n12_ n13_ n14_ n15_; clear hb hbox hg) | ((with_reducible refine gate_dst (N := 14) rfl ?_); refine box_event ?hg (N := 14) ?hd (cs := #[.int .u64 0, .int .u64 0]) (t := 58) ?hr ?_; (case hd => rfl); (case hg => rfl); (case hr => first | (go_simp; done) | (go_simp; rfl)); intro gb205 hg w112 hbox hb; have n0_ := Aside0.mk (blk_below (g := gb174) (o := .cells #[.int .u64 a2_0, .int .u64 a2_1] 58 (0, 0)) (by (with_reducible repeat (first | apply bN | apply bD | apply bA)); exact BK174.out) hb); have n1_ := Aside0.mk (blk_below (g := gb175) (o := .cells #[.int .u64 a3_0, .int .u64 a3_1] 58 (0, 0)) (by (with_reducible repeat (first | apply bN | apply bD | apply bA)); exact BK175.out) hb); have n2_ := Aside0.mk (blk_below (g := gb176) (o := .cells #[.int .u64 x177000_4, .int .u64 x177001_4] 58 (0, 0)) (by (with_reducible repeat (first | apply bN | apply bD | apply bA)); exact BK176.out) hb); have n3_ := Aside0.mk (blk_below (g := gb177) (o := .cells #[.int .u64 x178000_4, .int .u64 x178001_4] 58 (0, 0)) (by (with_reducible repeat (first | apply bN | apply bD | apply bA)); exact BK177.out) hb); have n4_ := Aside0.mk (blk_below (g := gb204) (o := .cells #[.int .u64 0, .int .u64 0] 58 (0, 0)) (by (with_reducible repeat (first | apply bN | apply bD | apply bA)); exact BK204.out) hb); have n5_ := Aside0.mk (below_step (by repeat (first | (with_reducible first | exact HB.out | apply lA | apply lN | apply lD | refine lS ?_ ‹_›) | exact HB.out)) hb); have n6_ := Aside0.mk (hbox); have n7_ := Aside0.mk ((by rw [hg]; exact (below_size (by repeat (first | (with_reducible first | exact HB.out | apply lA | apply lN | apply lD | refine lS ?_ ‹_›) | exact HB.out))) : w.heap.size ≤ gb205)); have n8_ := n7_; have n9_ := Aside0.mk ((by rw [hg]; exact Nat.ne_of_lt (blk_lt (g := gb174) (o := .cells #[.int .u64 a2_0, .int .u64 a2_1] 58 (0, 0)) (by (with_reducible repeat (first | apply bN | apply bD | apply bA)); exact BK174.out)) : gb174 ≠ gb205)); have n10_ := sy n9_; have n11_ := Aside0.mk ((by rw [hg]; exact Nat.ne_of_lt (blk_lt (g := gb175) (o := .cells #[.int .u64 a3_0, .int .u64 a3_1] 58 (0, 0)) (by (with_reducible repeat (first | apply bN | apply bD | apply bA)); exact BK175.out)) : gb175 ≠ gb205)); have n12_ := sy n11_; have n13_ := Aside0.mk ((by rw [hg]; exact Nat.ne_of_lt (blk_lt (g := gb176) (o := .cells #[.int .u64 x177000_4, .int .u64 x177001_4] 58 (0, 0)) (by (with_reducible repeat (first | apply bN | apply bD | apply bA)); exact BK176.out)) : gb176 ≠ gb205)); have n14_ := sy n13_; have n15_ := Aside0.mk ((by rw [hg]; exact Nat.ne_of_lt (blk_lt (g := gb177) (o := .cells #[.int .u64 x178000_4, .int .u64 x178001_4] 58 (0, 0)) (by (with_reducible repeat (first | apply bN | apply bD | apply bA)); exact BK177.out)) : gb177 ≠ gb205)); have n16_ := sy n15_; have n17_ := Aside0.mk ((by rw [hg]; exact Nat.ne_of_lt (blk_lt (g := gb204) (o := .cells #[.int .u64 0, .int .u64 0] 58 (0, 0)) (by (with_reducible repeat (first | apply bN | apply bD | apply bA)); exact BK204.out)) : gb204 ≠ gb205)); have n18_ := sy n17_; clear BK174; clear BK175; clear BK176; clear BK177; clear BK204; clear HB; have BK174 := n0_; have BK175 := n1_; have BK176 := n2_; have BK177 := n3_; have BK204 := n4_; have HB := n5_; have BK205 := n6_; have GW205 := n7_; have GE205 := n8_; have NB174_205 := n9_; have NB205_174 := n10_; have NB175_205 := n11_; have NB205_175 := n12_; have NB176_205 := n13_; have NB205_176 := n14_; have NB177_205 := n15_; have NB205_177 := n16_; have NB204_205 := n17_; have NB205_204 := n18_; clear n0_ n1_ n2_ n3_ n4_ n5_ n6_ n7_ n8_ n9_ n10_ n11_ n12_ n13_ n14_ n15_ n16_ n17_ n18_; clear hb hbox hg; have hnb113 := NB204_174.out; have hnc113 := NB174_204.out; have hnb114 := NB204_175.out; have hnc114 := NB175_204.out; have hnb115 := NB204_176.out; have hnc115 := NB176_204.out; have hnb116 := NB204_177.out; have hnc116 := NB177_204.out; have hnb117 := NB204_205.out; have hnc117 := NB205_204.out; have hcz118_0 : w112.cell? ⟨gb204, 0, none⟩ = some (.int .u64 0) := (blk_cell BK204.out 0).trans rfl; have hcz118_1 : w112.cell? ⟨gb204, 1, none⟩ = some (.int .u64 0) := (blk_cell BK204.out 1).trans rfl; have hfz118_0 := blk_frozen BK204.out 0; have hfz118_1 := blk_frozen BK204.out 1; have hnb119 := NB205_174.out; have hnc119 := NB174_205.out; have hnb120 := NB205_175.out; have hnc120 := NB175_205.out; have hnb121 := NB205_176.out; have hnc121 := NB176_205.out; have hnb122 := NB205_177.out; have hnc122 := NB177_205.out; have hcz123_0 : w112.cell? ⟨gb205, 0, none⟩ = some (.int .u64 0) := (blk_cell BK205.out 0).trans rfl; have hcz123_1 : w112.cell? ⟨gb205, 1, none⟩ = some (.int .u64 0) := (blk_cell BK205.out 1).trans rfl; have hfz123_0 := blk_frozen BK205.out 0; have hfz123_1 := blk_frozen BK205.out 1))
          have n0_ : Aside0 (((((w112.setCell ⟨gb204, 0, none⟩ (.int .u64 t199)).setCell ⟨gb204, 1, none⟩ (.int .u64 t200)).setCell ⟨gb205, 0, none⟩ (.int .u64 t201)).setCell ⟨gb205, 1, none⟩ (.int .u64 t202)).heap[gb174]? = some (.cells #[.int .u64 a2_0, .int .u64 a2_1] 58 (0, 0))) := ⟨by (with_reducible repeat (first | apply bN | apply bD | apply bA)); refine blk_far ?_ NB174_205.out _; (with_reducible repeat (first | apply bN | apply bD | apply bA)); refine blk_far ?_ NB174_205.out _; (with_reducible repeat (first | apply bN | apply bD | apply bA)); refine blk_far ?_ NB174_204.out _; (with_reducible repeat (first | apply bN | apply bD | apply bA)); refine blk_far ?_ NB174_204.out _; (with_reducible repeat (first | apply bN | apply bD | apply bA)); exact BK174.out⟩
          have n1_ : Aside0 (((((w112.setCell ⟨gb204, 0, none⟩ (.int .u64 t199)).setCell ⟨gb204, 1, none⟩ (.int .u64 t200)).setCell ⟨gb205, 0, none⟩ (.int .u64 t201)).setCell ⟨gb205, 1, none⟩ (.int .u64 t202)).heap[gb175]? = some (.cells #[.int .u64 a3_0, .int .u64 a3_1] 58 (0, 0))) := ⟨by (with_reducible repeat (first | apply bN | apply bD | apply bA)); refine blk_far ?_ NB175_205.out _; (with_reducible repeat (first | apply bN | apply bD | apply bA)); refine blk_far ?_ NB175_205.out _; (with_reducible repeat (first | apply bN | apply bD | apply bA)); refine blk_far ?_ NB175_204.out _; (with_reducible repeat (first | apply bN | apply bD | apply bA)); refine blk_far ?_ NB175_204.out _; (with_reducible repeat (first | apply bN | apply bD | apply bA)); exact BK175.out⟩
          have n2_ : Aside0 (((((w112.setCell ⟨gb204, 0, none⟩ (.int .u64 t199)).setCell ⟨gb204, 1, none⟩ (.int .u64 t200)).setCell ⟨gb205, 0, none⟩ (.int .u64 t201)).setCell ⟨gb205, 1, none⟩ (.int .u64 t202)).heap[gb176]? = some (.cells #[.int .u64 x177000_4, .int .u64 x177001_4] 58 (0, 0))) := ⟨by (with_reducible repeat (first | apply bN | apply bD | apply bA)); refine blk_far ?_ NB176_205.out _; (with_reducible repeat (first | apply bN | apply bD | apply bA)); refine blk_far ?_ NB176_205.out _; (with_reducible repeat (first | apply bN | apply bD | apply bA)); refine blk_far ?_ NB176_204.out _; (with_reducible repeat (first | apply bN | apply bD | apply bA)); refine blk_far ?_ NB176_204.out _; (with_reducible repeat (first | apply bN | apply bD | apply bA)); exact BK176.out⟩
          have n3_ : Aside0 (((((w112.setCell ⟨gb204, 0, none⟩ (.int .u64 t199)).setCell ⟨gb204, 1, none⟩ (.int .u64 t200)).setCell ⟨gb205, 0, none⟩ (.int .u64 t201)).setCell ⟨gb205, 1, none⟩ (.int .u64 t202)).heap[gb177]? = some (.cells #[.int .u64 x178000_4, .int .u64 x178001_4] 58 (0, 0))) := ⟨by (with_reducible repeat (first | apply bN | apply bD | apply bA)); refine blk_far ?_ NB177_205.out _; (with_reducible repeat (first | apply bN | apply bD | apply bA)); refine blk_far ?_ NB177_205.out _; (with_reducible repeat (first | apply bN | apply bD | apply bA)); refine blk_far ?_ NB177_204.out _; (with_reducible repeat (first | apply bN | apply bD | apply bA)); refine blk_far ?_ NB177_204.out _; (with_reducible repeat (first | apply bN | apply bD | apply bA)); exact BK177.out⟩
          have n4_ : Aside0 (((((w112.setCell ⟨gb204, 0, none⟩ (.int .u64 t199)).setCell ⟨gb204, 1, none⟩ (.int .u64 t200)).setCell ⟨gb205, 0, none⟩ (.int .u64 t201)).setCell ⟨gb205, 1, none⟩ (.int .u64 t202)).heap[gb204]? = some (.cells #[.int .u64 t199, .int .u64 t200] 58 (0, 0))) := ⟨by (with_reducible repeat (first | apply bN | apply bD | apply bA)); refine blk_far ?_ NB204_205.out _; (with_reducible repeat (first | apply bN | apply bD | apply bA)); refine blk_far ?_ NB204_205.out _; (with_reducible repeat (first | apply bN | apply bD | apply bA)); refine blk_put (cs := #[.int .u64 t199, .int .u64 0]) ?_ 1 _ rfl; (with_reducible repeat (first | apply bN | apply bD | apply bA)); refine blk_put (cs := #[.int .u64 0, .int .u64 0]) ?_ 0 _ rfl; (with_reducible repeat (first | apply bN | apply bD | apply bA)); exact BK204.out⟩
          have n5_ : Aside0 (((((w112.setCell ⟨gb204, 0, none⟩ (.int .u64 t199)).setCell ⟨gb204, 1, none⟩ (.int .u64 t200)).setCell ⟨gb205, 0, none⟩ (.int .u64 t201)).setCell ⟨gb205, 1, none⟩ (.int .u64 t202)).heap[gb205]? = some (.cells #[.int .u64 t201, .int .u64 t202] 58 (0, 0))) := ⟨by (with_reducible repeat (first | apply bN | apply bD | apply bA)); refine blk_put (cs := #[.int .u64 t201, .int .u64 0]) ?_ 1 _ rfl; (with_reducible repeat (first | apply bN | apply bD | apply bA)); refine blk_put (cs := #[.int .u64 0, .int .u64 0]) ?_ 0 _ rfl; (with_reducible repeat (first | apply bN | apply bD | apply bA)); refine blk_far ?_ NB205_204.out _; (with_reducible repeat (first | apply bN | apply bD | apply bA)); refine blk_far ?_ NB205_204.out _; (with_reducible repeat (first | apply bN | apply bD | apply bA)); exact BK205.out⟩
          have n6_ : Aside0 (Below w.heap.size w ((((w112.setCell ⟨gb204, 0, none⟩ (.int .u64 t199)).setCell ⟨gb204, 1, none⟩ (.int .u64 t200)).setCell ⟨gb205, 0, none⟩ (.int .u64 t201)).setCell ⟨gb205, 1, none⟩ (.int .u64 t202))) := ⟨by repeat (first | (with_reducible first | exact HB.out | apply lA | apply lN | apply lD | refine lS ?_ ‹_›) | exact HB.out)⟩
          (try clear BK174)
          (try clear BK175)
          (try clear BK176)
          (try clear BK177)
          (try clear BK204)
          (try clear BK205)
          (try clear HB)
          generalize ((((w112.setCell ⟨gb204, 0, none⟩ (.int .u64 t199)).setCell ⟨gb204, 1, none⟩ (.int .u64 t200)).setCell ⟨gb205, 0, none⟩ (.int .u64 t201)).setCell ⟨gb205, 1, none⟩ (.int .u64 t202)) = w124 at n0_ n1_ n2_ n3_ n4_ n5_ n6_ ⊢
          have BK174 := n0_; have BK175 := n1_; have BK176 := n2_; have BK177 := n3_; have BK204 := n4_; have BK205 := n5_; have HB := n6_; clear n0_ n1_ n2_ n3_ n4_ n5_ n6_; have n0_ := Aside0.mk (blk_drew BK174.out); have n1_ := Aside0.mk (blk_drew BK175.out); have n2_ := Aside0.mk (blk_drew BK176.out); have n3_ := Aside0.mk (blk_drew BK177.out); have n4_ := Aside0.mk (blk_drew BK204.out); have n5_ := Aside0.mk (blk_drew BK205.out)
          have n6_ := Aside0.mk (below_drew1 HB.out)
          clear BK174; clear BK175; clear BK176; clear BK177; clear BK204; clear BK205; clear HB; have BK174 := n0_; have BK175 := n1_; have BK176 := n2_; have BK177 := n3_; have BK204 := n4_; have BK205 := n5_; have HB := n6_; clear n0_ n1_ n2_ n3_ n4_ n5_ n6_
          refine start_ (n := 6) (S := fun w' => w'.cell? ⟨gb205, 0, none⟩ = some (.int .u64 t201) ∧ w'.cell? ⟨gb205, 1, none⟩ = some (.int .u64 t202) ∧ w'.cell? ⟨gb204, 0, none⟩ = some (.int .u64 t199) ∧ w'.cell? ⟨gb204, 1, none⟩ = some (.int .u64 t200)) (ds := []) #[false, false, false, false, false, false] (by kernel_rfl) rfl rfl ⟨(blk_cell BK205.out 0).trans rfl, (blk_cell BK205.out 1).trans rfl, (blk_cell BK204.out 0).trans rfl, (blk_cell BK204.out 1).trans rfl⟩ (fun hHeld => ?_)
          generalize w124.drew = w125 at BK174 BK175 BK176 BK177 BK204 BK205 HB hHeld ⊢
          refine pure_ (i := 2) (N := some 78) (v := ?_) (a' := ?_) #[false, false, true, false, false, false] rfl rfl (by kernel_rfl) (fun _ _ _ h => h) (Or.inl ⟨by rfl, ?_⟩) ?_ ?_
          rotate_left
          ·
           intro w'
           go_simp; with_reducible rfl
          rotate_left
          ·
           simp only [Act.put, List.setIfInBounds_toArray, List.set_cons_zero, List.set_cons_succ, i64_w, i32_w]
           rfl
          refine take_ (i := 0) (N := some 76) (v := ?_) (a' := ?_) #[true, false, true, false, false, false] rfl rfl (by kernel_rfl) (fun _ _ _ h => h) (Or.inl ⟨by rfl, ?_⟩) hHeld ?_ ?_
          rotate_left
          ·
           rintro w' ⟨s0, s1, s2, s3⟩
           go_simp; with_reducible rfl
          rotate_left
          ·
           simp only [Act.put, List.setIfInBounds_toArray, List.set_cons_zero, List.set_cons_succ, i64_w, i32_w]
           rfl
          refine take_ (i := 1) (N := some 77) (v := ?_) (a' := ?_) #[true, true, true, false, false, false] rfl rfl (by kernel_rfl) (fun _ _ _ h => h) (Or.inl ⟨by rfl, ?_⟩) hHeld ?_ ?_
          rotate_left
          ·
           rintro w' ⟨s0, s1, s2, s3⟩
           go_simp; with_reducible rfl
          rotate_left
          ·
           simp only [Act.put, List.setIfInBounds_toArray, List.set_cons_zero, List.set_cons_succ, i64_w, i32_w]
           rfl
          refine one_ (i := 3) (N := none) #[true, true, true, true, false, false] rfl rfl (by kernel_rfl) (by decide) (fun K hK => ?_)
          have hs126 : w125.cell? ⟨gb176, 0, none⟩ = some (.int .u64 x177000_4) := (blk_cell BK176.out 0).trans rfl
          have hfs126 := blk_frozen BK176.out 0
          have hns126_0 := NB174_176.out
          have hns126_1 := NB175_176.out
          have hns126_3 := NB177_176.out
          have hns126_4 := NB204_176.out
          have hns126_5 := NB205_176.out
          have hms126_0 := NB176_174.out
          have hms126_1 := NB176_175.out
          have hms126_3 := NB176_177.out
          have hms126_4 := NB176_204.out
          have hms126_5 := NB176_205.out
          have hs127 : w125.cell? ⟨gb176, 1, none⟩ = some (.int .u64 x177001_4) := (blk_cell BK176.out 1).trans rfl
          have hfs127 := blk_frozen BK176.out 1
          have hns127_0 := NB174_176.out
          have hns127_1 := NB175_176.out
          have hns127_3 := NB177_176.out
          have hns127_4 := NB204_176.out
          have hns127_5 := NB205_176.out
          have hms127_0 := NB176_174.out
          have hms127_1 := NB176_175.out
          have hms127_3 := NB176_177.out
          have hms127_4 := NB176_204.out
          have hms127_5 := NB176_205.out
          refine skip_ (w1 := ?_) (by rfl) rfl ?_ ?_
          rotate_left
          ·
           go_simp
           rfl
          refine hK.out _ _ ⟨((cell_far (p := ⟨gb176, _, none⟩) NB205_176.out _).trans (((cell_far (p := ⟨gb176, _, none⟩) NB205_176.out _).trans (hHeld.1)))), ((cell_far (p := ⟨gb176, _, none⟩) NB205_176.out _).trans (((cell_far (p := ⟨gb176, _, none⟩) NB205_176.out _).trans (hHeld.2.1)))), ((cell_far (p := ⟨gb176, _, none⟩) NB204_176.out _).trans (((cell_far (p := ⟨gb176, _, none⟩) NB204_176.out _).trans (hHeld.2.2.1)))), ((cell_far (p := ⟨gb176, _, none⟩) NB204_176.out _).trans (((cell_far (p := ⟨gb176, _, none⟩) NB204_176.out _).trans (hHeld.2.2.2))))⟩ (fun hHeld => ?_)
          clear hK K
          refine one_ (i := 4) (N := none) #[true, true, true, true, true, false] rfl rfl (by kernel_rfl) (by decide) (fun K hK => ?_)
          have hs128 : w125.cell? ⟨gb177, 0, none⟩ = some (.int .u64 x178000_4) := (blk_cell BK177.out 0).trans rfl
          have hfs128 := blk_frozen BK177.out 0
          have hns128_0 := NB174_177.out
          have hns128_1 := NB175_177.out
          have hns128_2 := NB176_177.out
          have hns128_4 := NB204_177.out
          have hns128_5 := NB205_177.out
          have hms128_0 := NB177_174.out
          have hms128_1 := NB177_175.out
          have hms128_2 := NB177_176.out
          have hms128_4 := NB177_204.out
          have hms128_5 := NB177_205.out
          have hs129 : w125.cell? ⟨gb177, 1, none⟩ = some (.int .u64 x178001_4) := (blk_cell BK177.out 1).trans rfl
          have hfs129 := blk_frozen BK177.out 1
          have hns129_0 := NB174_177.out
          have hns129_1 := NB175_177.out
          have hns129_2 := NB176_177.out
          have hns129_4 := NB204_177.out
          have hns129_5 := NB205_177.out
          have hms129_0 := NB177_174.out
          have hms129_1 := NB177_175.out
          have hms129_2 := NB177_176.out
          have hms129_4 := NB177_204.out
          have hms129_5 := NB177_205.out
          refine skip_ (w1 := ?_) (by rfl) rfl ?_ ?_
          rotate_left
          ·
           go_simp
           rfl
          refine hK.out _ _ ⟨((cell_far (p := ⟨gb177, _, none⟩) NB205_177.out _).trans (((cell_far (p := ⟨gb177, _, none⟩) NB205_177.out _).trans (hHeld.1)))), ((cell_far (p := ⟨gb177, _, none⟩) NB205_177.out _).trans (((cell_far (p := ⟨gb177, _, none⟩) NB205_177.out _).trans (hHeld.2.1)))), ((cell_far (p := ⟨gb177, _, none⟩) NB204_177.out _).trans (((cell_far (p := ⟨gb177, _, none⟩) NB204_177.out _).trans (hHeld.2.2.1)))), ((cell_far (p := ⟨gb177, _, none⟩) NB204_177.out _).trans (((cell_far (p := ⟨gb177, _, none⟩) NB204_177.out _).trans (hHeld.2.2.2))))⟩ (fun hHeld => ?_)
          clear hK K
          refine pure_ (i := 5) (N := some 10) (v := ?_) (a' := ?_) #[true, true, true, true, true, true] rfl rfl (by kernel_rfl) (fun _ _ _ h => h) (Or.inl ⟨by rfl, ?_⟩) ?_ ?_
          rotate_left
          ·
           intro w'
           go_simp; with_reducible rfl
          rotate_left
          ·
           simp only [Act.put, List.setIfInBounds_toArray, List.set_cons_zero, List.set_cons_succ, i64_w, i32_w]
           rfl
          refine done_ (by kernel_rfl) ?_
          try go_wp2
          refine bodyPost_ret (results_list (rs := [.cell 8 58, .cell 9 58, .tmp 10]) rfl (by simp) (.cell gb176 58 #[.int .u64 t201, .int .u64 t202] (0, 0) _ rfl (by (with_reducible repeat (first | apply bN | apply bD | apply bA)); refine blk_far ?_ NB176_177.out _; (with_reducible repeat (first | apply bN | apply bD | apply bA)); refine blk_far ?_ NB176_177.out _; (with_reducible repeat (first | apply bN | apply bD | apply bA)); refine blk_put (cs := #[.int .u64 t201, .int .u64 x177001_4]) ?_ 1 _ rfl; (with_reducible repeat (first | apply bN | apply bD | apply bA)); refine blk_put (cs := #[.int .u64 x177000_4, .int .u64 x177001_4]) ?_ 0 _ rfl; (with_reducible repeat (first | apply bN | apply bD | apply bA)); exact BK176.out) Try.underlying58 rfl (by kernel_rfl) (.cell gb177 58 #[.int .u64 t199, .int .u64 t200] (0, 0) _ rfl (by (with_reducible repeat (first | apply bN | apply bD | apply bA)); refine blk_put (cs := #[.int .u64 t199, .int .u64 x178001_4]) ?_ 1 _ rfl; (with_reducible repeat (first | apply bN | apply bD | apply bA)); refine blk_put (cs := #[.int .u64 x178000_4, .int .u64 x178001_4]) ?_ 0 _ rfl; (with_reducible repeat (first | apply bN | apply bD | apply bA)); refine blk_far ?_ NB177_176.out _; (with_reducible repeat (first | apply bN | apply bD | apply bA)); refine blk_far ?_ NB177_176.out _; (with_reducible repeat (first | apply bN | apply bD | apply bA)); exact BK177.out) Try.underlying58 rfl (by kernel_rfl) (.tmp .nil)))) rfl ?_
          exact ⟨by first | rfl | (simp [errW_none, errW_some] <;> rfl) | (simp [*, errW_none, errW_some] <;> rfl), by repeat (first | (with_reducible first | exact HB.out | apply lA | apply lN | apply lD | refine lS ?_ ‹_›) | exact HB.out)⟩
         ·
          rw [if_neg c101] at H
          have c101b0 : (x0_4 == 48) = false := beq_eq_false_iff_ne.mpr c101; have c101b1 : (x0_4 != 48) = true := bne_iff_ne.mpr c101
          by_cases c130 : a2_1 > 0
          ·
           rw [if_pos c130] at H
           have c130b0 : decide (0 < a2_1) = true := decide_eq_true c130; clear c130; simp only [Option.some.injEq, Prod.mk.injEq] at H; obtain ⟨rfl, rfl, rfl, rfl, rfl⟩ := H
           try go_wp2
           have n0_ := Aside0.mk (blk_drew BK174.out); have n1_ := Aside0.mk (blk_drew BK175.out); have n2_ := Aside0.mk (blk_drew BK176.out); have n3_ := Aside0.mk (blk_drew BK177.out)
           have n4_ := Aside0.mk (below_drew1 HB.out)
           clear BK174; clear BK175; clear BK176; clear BK177; clear HB; have BK174 := n0_; have BK175 := n1_; have BK176 := n2_; have BK177 := n3_; have HB := n4_; clear n0_ n1_ n2_ n3_ n4_
           refine start_ (n := 13) (S := fun w' => w'.cell? ⟨gb174, 0, none⟩ = some (.int .u64 a2_0) ∧ w'.cell? ⟨gb174, 1, none⟩ = some (.int .u64 a2_1) ∧ w'.cell? ⟨gb175, 0, none⟩ = some (.int .u64 a3_0) ∧ w'.cell? ⟨gb175, 1, none⟩ = some (.int .u64 a3_1)) (ds := []) #[false, false, false, false, false, false, false, false, false, false, false, false, false] (by kernel_rfl) rfl rfl ⟨(blk_cell BK174.out 0).trans rfl, (blk_cell BK174.out 1).trans rfl, (blk_cell BK175.out 0).trans rfl, (blk_cell BK175.out 1).trans rfl⟩ (fun hHeld => ?_); refine with_tabW span_order.tab29 span_order.bits29 (fun HT_ HW_ => ?_)
           generalize wc.drew = w131 at BK174 BK175 BK176 BK177 HB hHeld ⊢
           refine pure_ (i := 2) (N := some 81) (v := ?_) (a' := ?_) #[false, false, true, false, false, false, false, false, false, false, false, false, false] rfl rfl (any_of HT_.out (by kernel_rfl)) (fun _ _ _ h => h) (Or.inl ⟨by rfl, ?_⟩) ?_ ?_
           rotate_left
           ·
            intro w'
            go_simp; with_reducible rfl
           rotate_left
           ·
            simp only [Act.put, List.setIfInBounds_toArray, List.set_cons_zero, List.set_cons_succ, i64_w, i32_w]
            rfl
           refine take_ (i := 0) (N := some 79) (v := ?_) (a' := ?_) #[true, false, true, false, false, false, false, false, false, false, false, false, false] rfl rfl (take_ofW HT_.out HW_.out (by kernel_rfl)) (fun _ _ _ h => h) (Or.inl ⟨by rfl, ?_⟩) hHeld ?_ ?_
           rotate_left
           ·
            rintro w' ⟨s0, s1, s2, s3⟩
            go_simp; with_reducible rfl
           rotate_left
           ·
            simp only [Act.put, List.setIfInBounds_toArray, List.set_cons_zero, List.set_cons_succ, i64_w, i32_w]
            rfl
           refine take_ (i := 1) (N := some 80) (v := ?_) (a' := ?_) #[true, true, true, false, false, false, false, false, false, false, false, false, false] rfl rfl (take_ofW HT_.out HW_.out (by kernel_rfl)) (fun _ _ _ h => h) (Or.inl ⟨by rfl, ?_⟩) hHeld ?_ ?_
           rotate_left
           ·
            rintro w' ⟨s0, s1, s2, s3⟩
            go_simp; with_reducible rfl
           rotate_left
           ·
            simp only [Act.put, List.setIfInBounds_toArray, List.set_cons_zero, List.set_cons_succ, i64_w, i32_w]
            rfl
           refine take_ (i := 3) (N := some 82) (v := ?_) (a' := ?_) #[true, true, true, true, false, false, false, false, false, false, false, false, false] rfl rfl (take_ofW HT_.out HW_.out (by kernel_rfl)) (fun _ _ _ h => h) (Or.inl ⟨by rfl, ?_⟩) hHeld ?_ ?_
           rotate_left
           ·
            rintro w' ⟨s0, s1, s2, s3⟩
            go_simp; with_reducible rfl
           rotate_left
           ·
            simp only [Act.put, List.setIfInBounds_toArray, List.set_cons_zero, List.set_cons_succ, i64_w, i32_w]
            rfl
           refine pure_ (i := 4) (N := some 83) (v := ?_) (a' := ?_) #[true, true, true, true, true, false, false, false, false, false, false, false, false] rfl rfl (any_of HT_.out (by kernel_rfl)) (fun _ _ _ h => h) (Or.inl ⟨by rfl, ?_⟩) ?_ ?_
           rotate_left
           ·
            intro w'
            go_simp; with_reducible rfl
           rotate_left
           ·
            simp only [Act.put, List.setIfInBounds_toArray, List.set_cons_zero, List.set_cons_succ, i64_w, i32_w]
            rfl
           refine pure_ (i := 5) (N := some 84) (v := ?_) (a' := ?_) #[true, true, true, true, true, true, false, false, false, false, false, false, false] rfl rfl (any_of HT_.out (by kernel_rfl)) (fun _ _ _ h => h) (Or.inl ⟨by rfl, ?_⟩) ?_ ?_
           rotate_left
           ·
            intro w'
            go_simp; with_reducible rfl
           rotate_left
           ·
            simp only [Act.put, List.setIfInBounds_toArray, List.set_cons_zero, List.set_cons_succ, i64_w, i32_w]
            rfl
           refine pure_ (i := 6) (N := some 85) (v := ?_) (a' := ?_) #[true, true, true, true, true, true, true, false, false, false, false, false, false] rfl rfl (any_of HT_.out (by kernel_rfl)) (fun _ _ _ h => h) (Or.inl ⟨by rfl, ?_⟩) ?_ ?_
           rotate_left
           ·
            intro w'
            go_simp; with_reducible rfl
           rotate_left
           ·
            simp only [Act.put, List.setIfInBounds_toArray, List.set_cons_zero, List.set_cons_succ, i64_w, i32_w]
            rfl
           refine take_ (i := 7) (N := some 86) (v := ?_) (a' := ?_) #[true, true, true, true, true, true, true, true, false, false, false, false, false] rfl rfl (take_ofW HT_.out HW_.out (by kernel_rfl)) (fun _ _ _ h => h) (Or.inl ⟨by rfl, ?_⟩) hHeld ?_ ?_
           rotate_left
           ·
            rintro w' ⟨s0, s1, s2, s3⟩
            go_simp; with_reducible rfl
           rotate_left
           ·
            simp only [Act.put, List.setIfInBounds_toArray, List.set_cons_zero, List.set_cons_succ, i64_w, i32_w]
            rfl
           refine pure_ (i := 8) (N := some 87) (v := ?_) (a' := ?_) #[true, true, true, true, true, true, true, true, true, false, false, false, false] rfl rfl (any_of HT_.out (by kernel_rfl)) (fun _ _ _ h => h) (Or.inl ⟨by rfl, ?_⟩) ?_ ?_
           rotate_left
           ·
            intro w'
            go_simp; with_reducible rfl
           rotate_left
           ·
            simp only [Act.put, List.setIfInBounds_toArray, List.set_cons_zero, List.set_cons_succ, i64_w, i32_w]
            rfl
           refine pure_ (i := 9) (N := some 88) (v := ?_) (a' := ?_) #[true, true, true, true, true, true, true, true, true, true, false, false, false] rfl rfl (any_of HT_.out (by kernel_rfl)) (fun _ _ _ h => h) (Or.inl ⟨by rfl, ?_⟩) ?_ ?_
           rotate_left
           ·
            intro w'
            go_simp; with_reducible rfl
           rotate_left
           ·
            simp only [Act.put, List.setIfInBounds_toArray, List.set_cons_zero, List.set_cons_succ, i64_w, i32_w]
            rfl
           refine one_ (i := 10) (N := none) #[true, true, true, true, true, true, true, true, true, true, true, false, false] rfl rfl (one_of HT_.out (by kernel_rfl)) (by decide) (fun K hK => ?_)
           have hs132 : w131.cell? ⟨gb176, 0, none⟩ = some (.int .u64 x177000_4) := (blk_cell BK176.out 0).trans rfl
           have hfs132 := blk_frozen BK176.out 0
           have hns132_0 := NB174_176.out
           have hns132_1 := NB175_176.out
           have hns132_3 := NB177_176.out
           have hms132_0 := NB176_174.out
           have hms132_1 := NB176_175.out
           have hms132_3 := NB176_177.out
           have hs133 : w131.cell? ⟨gb176, 1, none⟩ = some (.int .u64 x177001_4) := (blk_cell BK176.out 1).trans rfl
           have hfs133 := blk_frozen BK176.out 1
           have hns133_0 := NB174_176.out
           have hns133_1 := NB175_176.out
           have hns133_3 := NB177_176.out
           have hms133_0 := NB176_174.out
           have hms133_1 := NB176_175.out
           have hms133_3 := NB176_177.out
           refine skip_ (w1 := ?_) (by rfl) rfl ?_ ?_
           rotate_left
           ·
            go_simp
            rfl
           refine hK.out _ _ ⟨((cell_far (p := ⟨gb176, _, none⟩) NB174_176.out _).trans (((cell_far (p := ⟨gb176, _, none⟩) NB174_176.out _).trans (hHeld.1)))), ((cell_far (p := ⟨gb176, _, none⟩) NB174_176.out _).trans (((cell_far (p := ⟨gb176, _, none⟩) NB174_176.out _).trans (hHeld.2.1)))), ((cell_far (p := ⟨gb176, _, none⟩) NB175_176.out _).trans (((cell_far (p := ⟨gb176, _, none⟩) NB175_176.out _).trans (hHeld.2.2.1)))), ((cell_far (p := ⟨gb176, _, none⟩) NB175_176.out _).trans (((cell_far (p := ⟨gb176, _, none⟩) NB175_176.out _).trans (hHeld.2.2.2))))⟩ (fun hHeld => ?_)
           clear hK K
           refine one_ (i := 11) (N := none) #[true, true, true, true, true, true, true, true, true, true, true, true, false] rfl rfl (one_of HT_.out (by kernel_rfl)) (by decide) (fun K hK => ?_)
           have hs134 : w131.cell? ⟨gb177, 0, none⟩ = some (.int .u64 x178000_4) := (blk_cell BK177.out 0).trans rfl
           have hfs134 := blk_frozen BK177.out 0
           have hns134_0 := NB174_177.out
           have hns134_1 := NB175_177.out
           have hns134_2 := NB176_177.out
           have hms134_0 := NB177_174.out
           have hms134_1 := NB177_175.out
           have hms134_2 := NB177_176.out
           have hs135 : w131.cell? ⟨gb177, 1, none⟩ = some (.int .u64 x178001_4) := (blk_cell BK177.out 1).trans rfl
           have hfs135 := blk_frozen BK177.out 1
           have hns135_0 := NB174_177.out
           have hns135_1 := NB175_177.out
           have hns135_2 := NB176_177.out
           have hms135_0 := NB177_174.out
           have hms135_1 := NB177_175.out
           have hms135_2 := NB177_176.out
           refine skip_ (w1 := ?_) (by rfl) rfl ?_ ?_
           rotate_left
           ·
            go_simp
            rfl
           refine hK.out _ _ ⟨((cell_far (p := ⟨gb177, _, none⟩) NB174_177.out _).trans (((cell_far (p := ⟨gb177, _, none⟩) NB174_177.out _).trans (hHeld.1)))), ((cell_far (p := ⟨gb177, _, none⟩) NB174_177.out _).trans (((cell_far (p := ⟨gb177, _, none⟩) NB174_177.out _).trans (hHeld.2.1)))), ((cell_far (p := ⟨gb177, _, none⟩) NB175_177.out _).trans (((cell_far (p := ⟨gb177, _, none⟩) NB175_177.out _).trans (hHeld.2.2.1)))), ((cell_far (p := ⟨gb177, _, none⟩) NB175_177.out _).trans (((cell_far (p := ⟨gb177, _, none⟩) NB175_177.out _).trans (hHeld.2.2.2))))⟩ (fun hHeld => ?_)
           clear hK K
           refine pure_ (i := 12) (N := some 10) (v := ?_) (a' := ?_) #[true, true, true, true, true, true, true, true, true, true, true, true, true] rfl rfl (any_of HT_.out (by kernel_rfl)) (fun _ _ _ h => h) (Or.inl ⟨by rfl, ?_⟩) ?_ ?_
           rotate_left
           ·
            intro w'
            go_simp; with_reducible rfl
           rotate_left
           ·
            simp only [Act.put, List.setIfInBounds_toArray, List.set_cons_zero, List.set_cons_succ, i64_w, i32_w]
            rfl
           refine done_ (done_of HT_.out (by kernel_rfl)) ?_
           try go_wp2
           refine bodyPost_ret (results_list (rs := [.cell 8 58, .cell 9 58, .tmp 10]) rfl (by simp) (.cell gb176 58 #[.int .u64 a2_0, .int .u64 a2_1] (0, 0) _ rfl (by (with_reducible repeat (first | apply bN | apply bD | apply bA)); refine blk_far ?_ NB176_177.out _; (with_reducible repeat (first | apply bN | apply bD | apply bA)); refine blk_far ?_ NB176_177.out _; (with_reducible repeat (first | apply bN | apply bD | apply bA)); refine blk_put (cs := #[.int .u64 a2_0, .int .u64 x177001_4]) ?_ 1 _ rfl; (with_reducible repeat (first | apply bN | apply bD | apply bA)); refine blk_put (cs := #[.int .u64 x177000_4, .int .u64 x177001_4]) ?_ 0 _ rfl; (with_reducible repeat (first | apply bN | apply bD | apply bA)); exact BK176.out) Try.underlying58 rfl (by kernel_rfl) (.cell gb177 58 #[.int .u64 a3_0, .int .u64 a3_1] (0, 0) _ rfl (by (with_reducible repeat (first | apply bN | apply bD | apply bA)); refine blk_put (cs := #[.int .u64 a3_0, .int .u64 x178001_4]) ?_ 1 _ rfl; (with_reducible repeat (first | apply bN | apply bD | apply bA)); refine blk_put (cs := #[.int .u64 x178000_4, .int .u64 x178001_4]) ?_ 0 _ rfl; (with_reducible repeat (first | apply bN | apply bD | apply bA)); refine blk_far ?_ NB177_176.out _; (with_reducible repeat (first | apply bN | apply bD | apply bA)); refine blk_far ?_ NB177_176.out _; (with_reducible repeat (first | apply bN | apply bD | apply bA)); exact BK177.out) Try.underlying58 rfl (by kernel_rfl) (.tmp .nil)))) rfl ?_
           exact ⟨by first | rfl | (simp [errW_none, errW_some] <;> rfl) | (simp [*, errW_none, errW_some] <;> rfl), by repeat (first | (with_reducible first | exact HB.out | apply lA | apply lN | apply lD | refine lS ?_ ‹_›) | exact HB.out)⟩
          ·
           rw [if_neg c130] at H
           have c130b0 : decide (0 < a2_1) = false := decide_eq_false c130; clear c130; simp only [Option.some.injEq, Prod.mk.injEq] at H; obtain ⟨rfl, rfl, rfl, rfl, rfl⟩ := H
           try go_wp2
           have n0_ := Aside0.mk (blk_drew BK174.out); have n1_ := Aside0.mk (blk_drew BK175.out); have n2_ := Aside0.mk (blk_drew BK176.out); have n3_ := Aside0.mk (blk_drew BK177.out)
           have n4_ := Aside0.mk (below_drew1 HB.out)
           clear BK174; clear BK175; clear BK176; clear BK177; clear HB; have BK174 := n0_; have BK175 := n1_; have BK176 := n2_; have BK177 := n3_; have HB := n4_; clear n0_ n1_ n2_ n3_ n4_
           refine start_ (n := 13) (S := fun w' => w'.cell? ⟨gb174, 0, none⟩ = some (.int .u64 a2_0) ∧ w'.cell? ⟨gb174, 1, none⟩ = some (.int .u64 a2_1) ∧ w'.cell? ⟨gb175, 0, none⟩ = some (.int .u64 a3_0) ∧ w'.cell? ⟨gb175, 1, none⟩ = some (.int .u64 a3_1)) (ds := []) #[false, false, false, false, false, false, false, false, false, false, false, false, false] (by kernel_rfl) rfl rfl ⟨(blk_cell BK174.out 0).trans rfl, (blk_cell BK174.out 1).trans rfl, (blk_cell BK175.out 0).trans rfl, (blk_cell BK175.out 1).trans rfl⟩ (fun hHeld => ?_); refine with_tabW span_order.tab29 span_order.bits29 (fun HT_ HW_ => ?_)
           generalize wc.drew = w136 at BK174 BK175 BK176 BK177 HB hHeld ⊢
           refine pure_ (i := 2) (N := some 81) (v := ?_) (a' := ?_) #[false, false, true, false, false, false, false, false, false, false, false, false, false] rfl rfl (any_of HT_.out (by kernel_rfl)) (fun _ _ _ h => h) (Or.inl ⟨by rfl, ?_⟩) ?_ ?_
           rotate_left
           ·
            intro w'
            go_simp; with_reducible rfl
           rotate_left
           ·
            simp only [Act.put, List.setIfInBounds_toArray, List.set_cons_zero, List.set_cons_succ, i64_w, i32_w]
            rfl
           refine take_ (i := 0) (N := some 79) (v := ?_) (a' := ?_) #[true, false, true, false, false, false, false, false, false, false, false, false, false] rfl rfl (take_ofW HT_.out HW_.out (by kernel_rfl)) (fun _ _ _ h => h) (Or.inl ⟨by rfl, ?_⟩) hHeld ?_ ?_
           rotate_left
           ·
            rintro w' ⟨s0, s1, s2, s3⟩
            go_simp; with_reducible rfl
           rotate_left
           ·
            simp only [Act.put, List.setIfInBounds_toArray, List.set_cons_zero, List.set_cons_succ, i64_w, i32_w]
            rfl
           refine take_ (i := 1) (N := some 80) (v := ?_) (a' := ?_) #[true, true, true, false, false, false, false, false, false, false, false, false, false] rfl rfl (take_ofW HT_.out HW_.out (by kernel_rfl)) (fun _ _ _ h => h) (Or.inl ⟨by rfl, ?_⟩) hHeld ?_ ?_
           rotate_left
           ·
            rintro w' ⟨s0, s1, s2, s3⟩
            go_simp; with_reducible rfl
           rotate_left
           ·
            simp only [Act.put, List.setIfInBounds_toArray, List.set_cons_zero, List.set_cons_succ, i64_w, i32_w]
            rfl
           refine take_ (i := 3) (N := some 82) (v := ?_) (a' := ?_) #[true, true, true, true, false, false, false, false, false, false, false, false, false] rfl rfl (take_ofW HT_.out HW_.out (by kernel_rfl)) (fun _ _ _ h => h) (Or.inl ⟨by rfl, ?_⟩) hHeld ?_ ?_
           rotate_left
           ·
            rintro w' ⟨s0, s1, s2, s3⟩
            go_simp; with_reducible rfl
           rotate_left
           ·
            simp only [Act.put, List.setIfInBounds_toArray, List.set_cons_zero, List.set_cons_succ, i64_w, i32_w]
            rfl
           refine pure_ (i := 4) (N := some 83) (v := ?_) (a' := ?_) #[true, true, true, true, true, false, false, false, false, false, false, false, false] rfl rfl (any_of HT_.out (by kernel_rfl)) (fun _ _ _ h => h) (Or.inl ⟨by rfl, ?_⟩) ?_ ?_
           rotate_left
           ·
            intro w'
            go_simp; with_reducible rfl
           rotate_left
           ·
            simp only [Act.put, List.setIfInBounds_toArray, List.set_cons_zero, List.set_cons_succ, i64_w, i32_w]
            rfl
           refine pure_ (i := 5) (N := some 84) (v := ?_) (a' := ?_) #[true, true, true, true, true, true, false, false, false, false, false, false, false] rfl rfl (any_of HT_.out (by kernel_rfl)) (fun _ _ _ h => h) (Or.inl ⟨by rfl, ?_⟩) ?_ ?_
           rotate_left
           ·
            intro w'
            go_simp; with_reducible rfl
           rotate_left
           ·
            simp only [Act.put, List.setIfInBounds_toArray, List.set_cons_zero, List.set_cons_succ, i64_w, i32_w]
            rfl
           refine pure_ (i := 6) (N := some 85) (v := undef) (a' := ?_) #[true, true, true, true, true, true, true, false, false, false, false, false, false] rfl rfl (any_of HT_.out (by kernel_rfl)) (fun _ _ _ h => h) (Or.inr ⟨by rfl, rfl⟩) ?_ ?_
           rotate_left
           ·
            simp only [Act.put, List.setIfInBounds_toArray, List.set_cons_zero, List.set_cons_succ, i64_w, i32_w]
            rfl
           refine pure_ (i := 7) (N := some 86) (v := undef) (a' := ?_) #[true, true, true, true, true, true, true, true, false, false, false, false, false] rfl rfl (any_of HT_.out (by kernel_rfl)) (fun _ _ _ h => h) (Or.inr ⟨by rfl, rfl⟩) ?_ ?_
           rotate_left
           ·
            simp only [Act.put, List.setIfInBounds_toArray, List.set_cons_zero, List.set_cons_succ, i64_w, i32_w]
            rfl
           refine pure_ (i := 8) (N := some 87) (v := undef) (a' := ?_) #[true, true, true, true, true, true, true, true, true, false, false, false, false] rfl rfl (any_of HT_.out (by kernel_rfl)) (fun _ _ _ h => h) (Or.inr ⟨by rfl, rfl⟩) ?_ ?_
           rotate_left
           ·
            simp only [Act.put, List.setIfInBounds_toArray, List.set_cons_zero, List.set_cons_succ, i64_w, i32_w]
            rfl
           refine pure_ (i := 9) (N := some 88) (v := ?_) (a' := ?_) #[true, true, true, true, true, true, true, true, true, true, false, false, false] rfl rfl (any_of HT_.out (by kernel_rfl)) (fun _ _ _ h => h) (Or.inl ⟨by rfl, ?_⟩) ?_ ?_
           rotate_left
           ·
            intro w'
            go_simp; with_reducible rfl
           rotate_left
           ·
            simp only [Act.put, List.setIfInBounds_toArray, List.set_cons_zero, List.set_cons_succ, i64_w, i32_w]
            rfl
           refine one_ (i := 10) (N := none) #[true, true, true, true, true, true, true, true, true, true, true, false, false] rfl rfl (one_of HT_.out (by kernel_rfl)) (by decide) (fun K hK => ?_)
           have hs137 : w136.cell? ⟨gb176, 0, none⟩ = some (.int .u64 x177000_4) := (blk_cell BK176.out 0).trans rfl
           have hfs137 := blk_frozen BK176.out 0
           have hns137_0 := NB174_176.out
           have hns137_1 := NB175_176.out
           have hns137_3 := NB177_176.out
           have hms137_0 := NB176_174.out
           have hms137_1 := NB176_175.out
           have hms137_3 := NB176_177.out
           have hs138 : w136.cell? ⟨gb176, 1, none⟩ = some (.int .u64 x177001_4) := (blk_cell BK176.out 1).trans rfl
           have hfs138 := blk_frozen BK176.out 1
           have hns138_0 := NB174_176.out
           have hns138_1 := NB175_176.out
           have hns138_3 := NB177_176.out
           have hms138_0 := NB176_174.out
           have hms138_1 := NB176_175.out
           have hms138_3 := NB176_177.out
           refine skip_ (w1 := ?_) (by rfl) rfl ?_ ?_
           rotate_left
           ·
            go_simp
            rfl
           refine hK.out _ _ ⟨((cell_far (p := ⟨gb176, _, none⟩) NB174_176.out _).trans (((cell_far (p := ⟨gb176, _, none⟩) NB174_176.out _).trans (hHeld.1)))), ((cell_far (p := ⟨gb176, _, none⟩) NB174_176.out _).trans (((cell_far (p := ⟨gb176, _, none⟩) NB174_176.out _).trans (hHeld.2.1)))), ((cell_far (p := ⟨gb176, _, none⟩) NB175_176.out _).trans (((cell_far (p := ⟨gb176, _, none⟩) NB175_176.out _).trans (hHeld.2.2.1)))), ((cell_far (p := ⟨gb176, _, none⟩) NB175_176.out _).trans (((cell_far (p := ⟨gb176, _, none⟩) NB175_176.out _).trans (hHeld.2.2.2))))⟩ (fun hHeld => ?_)
           clear hK K
           refine one_ (i := 11) (N := none) #[true, true, true, true, true, true, true, true, true, true, true, true, false] rfl rfl (one_of HT_.out (by kernel_rfl)) (by decide) (fun K hK => ?_)
           have hs139 : w136.cell? ⟨gb177, 0, none⟩ = some (.int .u64 x178000_4) := (blk_cell BK177.out 0).trans rfl
           have hfs139 := blk_frozen BK177.out 0
           have hns139_0 := NB174_177.out
           have hns139_1 := NB175_177.out
           have hns139_2 := NB176_177.out
           have hms139_0 := NB177_174.out
           have hms139_1 := NB177_175.out
           have hms139_2 := NB177_176.out
           have hs140 : w136.cell? ⟨gb177, 1, none⟩ = some (.int .u64 x178001_4) := (blk_cell BK177.out 1).trans rfl
           have hfs140 := blk_frozen BK177.out 1
           have hns140_0 := NB174_177.out
           have hns140_1 := NB175_177.out
           have hns140_2 := NB176_177.out
           have hms140_0 := NB177_174.out
           have hms140_1 := NB177_175.out
           have hms140_2 := NB177_176.out
           refine skip_ (w1 := ?_) (by rfl) rfl ?_ ?_
           rotate_left
           ·
            go_simp
            rfl
           refine hK.out _ _ ⟨((cell_far (p := ⟨gb177, _, none⟩) NB174_177.out _).trans (((cell_far (p := ⟨gb177, _, none⟩) NB174_177.out _).trans (hHeld.1)))), ((cell_far (p := ⟨gb177, _, none⟩) NB174_177.out _).trans (((cell_far (p := ⟨gb177, _, none⟩) NB174_177.out _).trans (hHeld.2.1)))), ((cell_far (p := ⟨gb177, _, none⟩) NB175_177.out _).trans (((cell_far (p := ⟨gb177, _, none⟩) NB175_177.out _).trans (hHeld.2.2.1)))), ((cell_far (p := ⟨gb177, _, none⟩) NB175_177.out _).trans (((cell_far (p := ⟨gb177, _, none⟩) NB175_177.out _).trans (hHeld.2.2.2))))⟩ (fun hHeld => ?_)
           clear hK K
           refine pure_ (i := 12) (N := some 10) (v := ?_) (a' := ?_) #[true, true, true, true, true, true, true, true, true, true, true, true, true] rfl rfl (any_of HT_.out (by kernel_rfl)) (fun _ _ _ h => h) (Or.inl ⟨by rfl, ?_⟩) ?_ ?_
           rotate_left
           ·
            intro w'
            go_simp; with_reducible rfl
           rotate_left
           ·
            simp only [Act.put, List.setIfInBounds_toArray, List.set_cons_zero, List.set_cons_succ, i64_w, i32_w]
            rfl
           refine done_ (done_of HT_.out (by kernel_rfl)) ?_
           try go_wp2
           refine bodyPost_ret (results_list (rs := [.cell 8 58, .cell 9 58, .tmp 10]) rfl (by simp) (.cell gb176 58 #[.int .u64 a2_0, .int .u64 a2_1] (0, 0) _ rfl (by (with_reducible repeat (first | apply bN | apply bD | apply bA)); refine blk_far ?_ NB176_177.out _; (with_reducible repeat (first | apply bN | apply bD | apply bA)); refine blk_far ?_ NB176_177.out _; (with_reducible repeat (first | apply bN | apply bD | apply bA)); refine blk_put (cs := #[.int .u64 a2_0, .int .u64 x177001_4]) ?_ 1 _ rfl; (with_reducible repeat (first | apply bN | apply bD | apply bA)); refine blk_put (cs := #[.int .u64 x177000_4, .int .u64 x177001_4]) ?_ 0 _ rfl; (with_reducible repeat (first | apply bN | apply bD | apply bA)); exact BK176.out) Try.underlying58 rfl (by kernel_rfl) (.cell gb177 58 #[.int .u64 a3_0, .int .u64 a3_1] (0, 0) _ rfl (by (with_reducible repeat (first | apply bN | apply bD | apply bA)); refine blk_put (cs := #[.int .u64 a3_0, .int .u64 x178001_4]) ?_ 1 _ rfl; (with_reducible repeat (first | apply bN | apply bD | apply bA)); refine blk_put (cs := #[.int .u64 x178000_4, .int .u64 x178001_4]) ?_ 0 _ rfl; (with_reducible repeat (first | apply bN | apply bD | apply bA)); refine blk_far ?_ NB177_176.out _; (with_reducible repeat (first | apply bN | apply bD | apply bA)); refine blk_far ?_ NB177_176.out _; (with_reducible repeat (first | apply bN | apply bD | apply bA)); exact BK177.out) Try.underlying58 rfl (by kernel_rfl) (.tmp .nil)))) rfl ?_
           exact ⟨by first | rfl | (simp [errW_none, errW_some] <;> rfl) | (simp [*, errW_none, errW_some] <;> rfl), by repeat (first | (with_reducible first | exact HB.out | apply lA | apply lN | apply lD | refine lS ?_ ‹_›) | exact HB.out)⟩

end Go.Proofs.Ytladlljnpmpdpaa.PSpanNarrow
