-- Written by a program of this session (a variant of the print), for this claim. Lean checks it.
import Derived.Test.YtladlljnpmpdpaaPSpanNarrowx0
import Derived.Test.YtladlljnpmpdpaaPSpanNarrowx2
namespace Go.Proofs.Ytladlljnpmpdpaa.PSpanNarrow
open Go.RowKit Go.Proofs.YtladlljnpmpdpaaW.PrintWords Go.Proofs.YtladlljnpmpdpaaW.PrintLast Go.Proofs.YtladlljnpmpdpaaW.PrintMore
attribute [local go_sem] max2_int min2_int max_two min_two max_three min_three max_four min_four   -- for this text's walks alone
attribute [local go_sem high] Go.Proofs.Ytladlljnpmpdpaa.NotLaw.not_u64 Go.Proofs.Ytladlljnpmpdpaa.NotLaw.not_u32 Go.Proofs.Ytladlljnpmpdpaa.NotLaw.not_u16 Go.Proofs.Ytladlljnpmpdpaa.NotLaw.not_u8
set_option linter.unusedVariables false
set_option linter.unusedSimpArgs false

/-! ### span_do: function 51 -/
def span_do.j0 : Nat → Int → Int → Int → Int → Int → Int → Int → Int → Int → Option (Int × Int)
 | 0, _, _, _, _, _, _, _, _, _ => none
 | k + 1, x0, x1, x10, x119000, x119001, x120000, x120001, x122000, x122001 => if x0 = 0 then (if x119001 ≤ (IntKind.u64.wrap (x1 - x120001)) then (some (IntKind.u64.wrap (x119000 + x120000), IntKind.u64.wrap (x119001 + x120001))) else (some (x122000, x122001))) else (if x0 = 16 then (if x119000 ≥ x120001 then (some (IntKind.u64.wrap (x119000 - x120001), IntKind.u64.wrap (x119001 - x120000))) else (some (x122000, x122001))) else (if x0 = 32 then ((bits_Mul64.f x119001 x120001).bind fun bt122 => (if bt122.1 = 0 then (if bt122.2 ≤ x1 then (some (IntKind.u64.wrap (x119000 * x120000), bt122.2)) else (some (x122000, x122001))) else (some (x122000, x122001)))) else (if x0 = 48 then (if x120000 > 0 then (if x120001 = 0 then (none) else (if x120000 = 0 then (none) else (some (IntKind.u64.wrap (Int.tdiv x119000 x120001), IntKind.u64.wrap (Int.tdiv x119001 x120000))))) else (some (0, x119001))) else (if x0 = 64 then ((span_below.f (Go.bits .or .u64 x119001 x120001)).bind fun t124 => (some (mx x119000 x120000, t124))) else (if x0 = 80 then (some (0, mn x119001 x120001)) else (if x0 = 96 then ((span_one.f x120000 x120001).bind fun t125 => (if t125 = true then (if 0 ≤ x10 then (if x119001 ≤ (shr .u64 x1 x10) then (some (shl .u64 x119000 x10, shl .u64 x119001 x10)) else (some (x122000, x122001))) else (none)) else (some (x122000, x122001)))) else (if x0 = 112 then ((span_one.f x120000 x120001).bind fun t126 => (if t126 = true then (if 0 ≤ x10 then (some (shr .u64 x119000 x10, shr .u64 x119001 x10)) else (none)) else (some (0, x119001)))) else (if x0 = 144 then (if x119001 < x120000 then (some (x119000, x119001)) else (if x120000 > 0 then (some (0, mn x119001 (IntKind.u64.wrap (x120001 - 1)))) else (some (0, x119001)))) else (if x0 = 160 then ((span_below.f (Go.bits .or .u64 x119001 x120001)).bind fun t127 => (some (0, t127))) else (if x0 = 176 then (some (x120000, x120001)) else (if x0 = 192 then (if x119001 > (x1 / 2) then (some (x122000, x122001)) else ((span_one.f x120000 x120001).bind fun t128 => (if t128 = true then (if 0 ≤ x10 then (some (shr .u64 x119000 x10, shr .u64 x119001 x10)) else (none)) else (some (0, x119001))))) else (some (x122000, x122001)))))))))))))
def span_do.f (k : Nat) (a0 : Int) (a1 : Int) (a2_0 : Int) (a2_1 : Int) (a3_0 : Int) (a3_1 : Int) : Option (Int × Int) := if a1 = 18446744073709551615 then (span_do.j0 k a0 a1 (Go.bits .and .u64 a3_0 63) a2_0 a2_1 a3_0 a3_1 0 a1) else (span_do.j0 k a0 a1 (Go.bits .and .u64 a3_0 31) a2_0 a2_1 a3_0 a3_1 0 a1)
theorem span_do.mono_l : ∀ k, (∀ y0 y1 y2 y3 y4 y5 y6 y7 y8, LeO (span_do.j0 k y0 y1 y2 y3 y4 y5 y6 y7 y8) (span_do.j0 (k + 1) y0 y1 y2 y3 y4 y5 y6 y7 y8))
 | 0 => fun _ _ _ _ _ _ _ _ _ r h => by simp [span_do.j0] at h
 | k + 1 => by
  have ih0 := span_do.mono_l k
  ·
   intro y0 y1 y2 y3 y4 y5 y6 y7 y8
   unfold span_do.j0
   repeat' first
   | (with_reducible exact ih0 _ _ _ _ _ _ _ _ _)
   | (with_reducible exact LeO.refl _)
   | (with_reducible exact LeO.none _)
   | (with_reducible refine LeO.ite ?_ ?_)
   | (with_reducible refine LeO.bind ?_ (fun _ => ?_))
   | exact ih0 _ _ _ _ _ _ _ _ _
   | exact LeO.none _
   | refine LeO.ite ?_ ?_
   | refine LeO.bind ?_ (fun _ => ?_)
theorem span_do.mono : ∀ a0 a1 a2 a3 a4 a5 k, LeO (span_do.f k a0 a1 a2 a3 a4 a5) (span_do.f (k + 1) a0 a1 a2 a3 a4 a5) := by
 intro a0 a1 a2 a3 a4 a5 k
 have ih0 := span_do.mono_l k
 unfold span_do.f
 repeat' first
   | (with_reducible exact ih0 _ _ _ _ _ _ _ _ _)
   | (with_reducible exact LeO.refl _)
   | (with_reducible exact LeO.none _)
   | (with_reducible refine LeO.ite ?_ ?_)
   | (with_reducible refine LeO.bind ?_ (fun _ => ?_))
   | exact ih0 _ _ _ _ _ _ _ _ _
   | exact LeO.none _
   | refine LeO.ite ?_ ?_
   | refine LeO.bind ?_ (fun _ => ?_)
def span_do.T18 : Bool × List (List Nat × List Nat) := (true, [([], []), ([0], [0]), ([], []), ([2], [2]), ([1, 3], [1, 3]), ([], []), ([5], [5]), ([], []), ([7], [7]), ([6, 8], [6, 8]), ([4, 9], [4, 9]), ([10, 0, 1, 2, 3, 4, 5, 6, 7, 8, 9, 10], [10])])
def span_do.B18 : List Nat := [0, 1, 0, 4, 15, 0, 32, 0, 128, 480, 1023, 2047]
theorem span_do.tab18 : rtab .any (opsOf Try.f51 18) = span_do.T18 := by kernel_rfl
theorem span_do.bits18 : waitsOk span_do.T18.2 span_do.B18 = true := by kernel_rfl
def span_do.T21 : Bool × List (List Nat × List Nat) := (true, [([], []), ([0], [0]), ([], []), ([2], [2]), ([1, 3], [1, 3]), ([], []), ([5], [5]), ([], []), ([7], [7]), ([6, 8], [6, 8]), ([9], [9]), ([4, 10], [4, 10]), ([11, 10, 0, 1, 2, 3, 4, 5, 6, 7, 8, 9, 10, 11], [11])])
def span_do.B21 : List Nat := [0, 1, 0, 4, 15, 0, 32, 0, 128, 480, 992, 2047, 4095]
theorem span_do.tab21 : rtab .any (opsOf Try.f51 21) = span_do.T21 := by kernel_rfl
theorem span_do.bits21 : waitsOk span_do.T21.2 span_do.B21 = true := by kernel_rfl
set_option maxHeartbeats 8000000 in
set_option maxRecDepth 100000 in
theorem span_do.calls (k : Nat) (a0 : Int) (a1 : Int) (a2_0 : Int) (a2_1 : Int) (a3_0 : Int) (a3_1 : Int) (r1 : Int) (r2 : Int) (w : World) (h : span_do.f k a0 a1 a2_0 a2_1 a3_0 a3_1 = some (r1, r2)) :
  Calls Try.prog 51 #[.int .i64 a0, .int .u64 a1, .agg #[.int .u64 a2_0, .int .u64 a2_1], .agg #[.int .u64 a3_0, .int .u64 a3_1]] w fun e w' => e = .returned (.agg #[.int .u64 r1, .int .u64 r2]) ∧ Below w.heap.size w w' := by
 have hu58 := Try.underlying58
 have HB := Aside0.mk (Below.refl w.heap.size w)
 have H : (if a1 = 18446744073709551615 then (span_do.j0 k a0 a1 (Go.bits .and .u64 a3_0 63) a2_0 a2_1 a3_0 a3_1 0 a1) else (span_do.j0 k a0 a1 (Go.bits .and .u64 a3_0 31) a2_0 a2_1 a3_0 a3_1 0 a1)) = some (r1, r2) := h
 clear h
 have HC5 := Aside0.mk H
 clear H
 go_enter Try.func51, Try.ntmps51
 go_upto_if 19 with (first | ((with_reducible refine gate_dst (N := 6) rfl ?_); refine box_event ?hg (N := 6) ?hd (cs := #[.int .u64 a2_0, .int .u64 a2_1]) (t := 58) ?hr ?_; (case hd => rfl); (case hg => rfl); (case hr => first | (go_simp; done) | (go_simp; rfl)); intro gb118 hg w6 hbox hb; have n0_ := Aside0.mk (below_step (by repeat (first | (with_reducible first | exact HB.out | apply lA | apply lN | apply lD) | exact HB.out)) hb); have n1_ := Aside0.mk (hbox); have n2_ := Aside0.mk ((by rw [hg]; exact (below_size (by repeat (first | (with_reducible first | exact HB.out | apply lA | apply lN | apply lD) | exact HB.out))) : w.heap.size ≤ gb118)); have n3_ := n2_; clear HB; have HB := n0_; have BK118 := n1_; have GW118 := n2_; have GE118 := n3_; clear n0_ n1_ n2_ n3_; clear hb hbox hg) | ((with_reducible refine gate_dst (N := 7) rfl ?_); refine box_event ?hg (N := 7) ?hd (cs := #[.int .u64 a3_0, .int .u64 a3_1]) (t := 58) ?hr ?_; (case hd => rfl); (case hg => rfl); (case hr => first | (go_simp; done) | (go_simp; rfl)); intro gb119 hg w7 hbox hb; have n0_ := Aside0.mk (blk_below (g := gb118) (o := .cells #[.int .u64 a2_0, .int .u64 a2_1] 58 (0, 0)) (by (with_reducible repeat (first | apply bN | apply bD | apply bA)); exact BK118.out) hb); have n1_ := Aside0.mk (below_step (by repeat (first | (with_reducible first | exact HB.out | apply lA | apply lN | apply lD | refine lS ?_ ‹_›) | exact HB.out)) hb); have n2_ := Aside0.mk (hbox); have n3_ := Aside0.mk ((by rw [hg]; exact (below_size (by repeat (first | (with_reducible first | exact HB.out | apply lA | apply lN | apply lD | refine lS ?_ ‹_›) | exact HB.out))) : w.heap.size ≤ gb119)); have n4_ := n3_; have n5_ := Aside0.mk ((by rw [hg]; exact Nat.ne_of_lt (blk_lt (g := gb118) (o := .cells #[.int .u64 a2_0, .int .u64 a2_1] 58 (0, 0)) (by (with_reducible repeat (first | apply bN | apply bD | apply bA)); exact BK118.out)) : gb118 ≠ gb119)); have n6_ := sy n5_; clear BK118; clear HB; have BK118 := n0_; have HB := n1_; have BK119 := n2_; have GW119 := n3_; have GE119 := n4_; have NB118_119 := n5_; have NB119_118 := n6_; clear n0_ n1_ n2_ n3_ n4_ n5_ n6_; clear hb hbox hg) | ((with_reducible refine gate_dst (N := 8) rfl ?_); refine box_event ?hg (N := 8) ?hd (cs := #[.int .u64 0, .int .u64 0]) (t := 58) ?hr ?_; (case hd => rfl); (case hg => rfl); (case hr => first | (go_simp; done) | (go_simp; rfl)); intro gb120 hg w8 hbox hb; have n0_ := Aside0.mk (blk_below (g := gb118) (o := .cells #[.int .u64 a2_0, .int .u64 a2_1] 58 (0, 0)) (by (with_reducible repeat (first | apply bN | apply bD | apply bA)); exact BK118.out) hb); have n1_ := Aside0.mk (blk_below (g := gb119) (o := .cells #[.int .u64 a3_0, .int .u64 a3_1] 58 (0, 0)) (by (with_reducible repeat (first | apply bN | apply bD | apply bA)); exact BK119.out) hb); have n2_ := Aside0.mk (below_step (by repeat (first | (with_reducible first | exact HB.out | apply lA | apply lN | apply lD | refine lS ?_ ‹_›) | exact HB.out)) hb); have n3_ := Aside0.mk (hbox); have n4_ := Aside0.mk ((by rw [hg]; exact (below_size (by repeat (first | (with_reducible first | exact HB.out | apply lA | apply lN | apply lD | refine lS ?_ ‹_›) | exact HB.out))) : w.heap.size ≤ gb120)); have n5_ := n4_; have n6_ := Aside0.mk ((by rw [hg]; exact Nat.ne_of_lt (blk_lt (g := gb118) (o := .cells #[.int .u64 a2_0, .int .u64 a2_1] 58 (0, 0)) (by (with_reducible repeat (first | apply bN | apply bD | apply bA)); exact BK118.out)) : gb118 ≠ gb120)); have n7_ := sy n6_; have n8_ := Aside0.mk ((by rw [hg]; exact Nat.ne_of_lt (blk_lt (g := gb119) (o := .cells #[.int .u64 a3_0, .int .u64 a3_1] 58 (0, 0)) (by (with_reducible repeat (first | apply bN | apply bD | apply bA)); exact BK119.out)) : gb119 ≠ gb120)); have n9_ := sy n8_; clear BK118; clear BK119; clear HB; have BK118 := n0_; have BK119 := n1_; have HB := n2_; have BK120 := n3_; have GW120 := n4_; have GE120 := n5_; have NB118_120 := n6_; have NB120_118 := n7_; have NB119_120 := n8_; have NB120_119 := n9_; clear n0_ n1_ n2_ n3_ n4_ n5_ n6_ n7_ n8_ n9_; clear hb hbox hg) | ((with_reducible refine gate_dst (N := 9) rfl ?_); refine box_event ?hg (N := 9) ?hd (cs := #[.int .u64 0, .int .u64 0]) (t := 58) ?hr ?_; (case hd => rfl); (case hg => rfl); (case hr => first | (go_simp; done) | (go_simp; rfl)); intro gb121 hg w9 hbox hb; have n0_ := Aside0.mk (blk_below (g := gb118) (o := .cells #[.int .u64 a2_0, .int .u64 a2_1] 58 (0, 0)) (by (with_reducible repeat (first | apply bN | apply bD | apply bA)); exact BK118.out) hb); have n1_ := Aside0.mk (blk_below (g := gb119) (o := .cells #[.int .u64 a3_0, .int .u64 a3_1] 58 (0, 0)) (by (with_reducible repeat (first | apply bN | apply bD | apply bA)); exact BK119.out) hb); have n2_ := Aside0.mk (blk_below (g := gb120) (o := .cells #[.int .u64 0, .int .u64 0] 58 (0, 0)) (by (with_reducible repeat (first | apply bN | apply bD | apply bA)); exact BK120.out) hb); have n3_ := Aside0.mk (below_step (by repeat (first | (with_reducible first | exact HB.out | apply lA | apply lN | apply lD | refine lS ?_ ‹_›) | exact HB.out)) hb); have n4_ := Aside0.mk (hbox); have n5_ := Aside0.mk ((by rw [hg]; exact (below_size (by repeat (first | (with_reducible first | exact HB.out | apply lA | apply lN | apply lD | refine lS ?_ ‹_›) | exact HB.out))) : w.heap.size ≤ gb121)); have n6_ := n5_; have n7_ := Aside0.mk ((by rw [hg]; exact Nat.ne_of_lt (blk_lt (g := gb118) (o := .cells #[.int .u64 a2_0, .int .u64 a2_1] 58 (0, 0)) (by (with_reducible repeat (first | apply bN | apply bD | apply bA)); exact BK118.out)) : gb118 ≠ gb121)); have n8_ := sy n7_; have n9_ := Aside0.mk ((by rw [hg]; exact Nat.ne_of_lt (blk_lt (g := gb119) (o := .cells #[.int .u64 a3_0, .int .u64 a3_1] 58 (0, 0)) (by (with_reducible repeat (first | apply bN | apply bD | apply bA)); exact BK119.out)) : gb119 ≠ gb121)); have n10_ := sy n9_; have n11_ := Aside0.mk ((by rw [hg]; exact Nat.ne_of_lt (blk_lt (g := gb120) (o := .cells #[.int .u64 0, .int .u64 0] 58 (0, 0)) (by (with_reducible repeat (first | apply bN | apply bD | apply bA)); exact BK120.out)) : gb120 ≠ gb121)); have n12_ := sy n11_; clear BK118; clear BK119; clear BK120; clear HB; have BK118 := n0_; have BK119 := n1_; have BK120 := n2_; have HB := n3_; have BK121 := n4_; have GW121 := n5_; have GE121 := n6_; have NB118_121 := n7_; have NB121_118 := n8_; have NB119_121 := n9_; have NB121_119 := n10_; have NB120_121 := n11_; have NB121_120 := n12_; clear n0_ n1_ n2_ n3_ n4_ n5_ n6_ n7_ n8_ n9_ n10_ n11_ n12_; clear hb hbox hg; have hnb10 := NB121_118.out; have hnc10 := NB118_121.out; have hnb11 := NB121_119.out; have hnc11 := NB119_121.out; have hnb12 := NB121_120.out; have hnc12 := NB120_121.out; have hcz13_0 : w9.cell? ⟨gb121, 0, none⟩ = some (.int .u64 0) := (blk_cell BK121.out 0).trans rfl; have hcz13_1 : w9.cell? ⟨gb121, 1, none⟩ = some (.int .u64 0) := (blk_cell BK121.out 1).trans rfl; have hfz13_0 := blk_frozen BK121.out 0; have hfz13_1 := blk_frozen BK121.out 1; have hnb14 := NB119_118.out; have hnc14 := NB118_119.out; have hnb15 := NB119_120.out; have hnc15 := NB120_119.out; have hcz16_0 : w9.cell? ⟨gb119, 0, none⟩ = some (.int .u64 a3_0) := (blk_cell BK119.out 0).trans rfl; have hcz16_1 : w9.cell? ⟨gb119, 1, none⟩ = some (.int .u64 a3_1) := (blk_cell BK119.out 1).trans rfl; have hfz16_0 := blk_frozen BK119.out 0; have hfz16_1 := blk_frozen BK119.out 1))
 (try simp only [Act.put, List.setIfInBounds_toArray, List.set_cons_zero, List.set_cons_succ])
 go_cut [10] (fun v10 wc => ∃ (kq : Nat) (x10_4 : Int), v10 = .int .u64 x10_4 ∧ Aside0 (span_do.j0 kq a0 a1 x10_4 a2_0 a2_1 a3_0 a3_1 0 a1 = some (r1, r2)) ∧ Aside0 (kq ≤ k) ∧ Aside0 (wc.heap[gb118]? = some (.cells #[.int .u64 a2_0, .int .u64 a2_1] 58 (0, 0))) ∧ Aside0 (wc.heap[gb119]? = some (.cells #[.int .u64 a3_0, .int .u64 a3_1] 58 (0, 0))) ∧ Aside0 (wc.heap[gb120]? = some (.cells #[.int .u64 0, .int .u64 0] 58 (0, 0))) ∧ Aside0 (wc.heap[gb121]? = some (.cells #[.int .u64 0, .int .u64 a1] 58 (0, 0))) ∧ Aside0 (Below w.heap.size w wc))
 case first =>
  have H := HC5.out
  clear HC5
  by_cases c17 : a1 = 18446744073709551615
  ·
   rw [if_pos c17] at H
   have c17b0 : (a1 == 18446744073709551615) = true := beq_iff_eq.mpr c17; have c17b1 : (a1 != 18446744073709551615) = false := bne_eq_false_iff_eq.mpr c17; clear c17
   (first | rw [c17b0] | (simp only [i64_w, i32_w]; rw [c17b0]) | skip)
   have H' := Aside0.mk H
   clear H; have hnb18 := NB119_118.out; have hnc18 := NB118_119.out; have hnb19 := NB119_120.out; have hnc19 := NB120_119.out; have hnb20 := NB119_121.out; have hnc20 := NB121_119.out; have hcz21_0 : w9.cell? ⟨gb119, 0, none⟩ = some (.int .u64 a3_0) := (blk_cell BK119.out 0).trans rfl; have hcz21_1 : w9.cell? ⟨gb119, 1, none⟩ = some (.int .u64 a3_1) := (blk_cell BK119.out 1).trans rfl; have hfz21_0 := blk_frozen BK119.out 0; have hfz21_1 := blk_frozen BK119.out 1
   go_wp2
   go_meet
   case rel => exact ⟨_, (Go.bits .and .u64 a3_0 63), (by first | rfl | (simp; done) | (simp [*]; done)), H', ⟨by first | omega | exact Nat.le_refl _⟩, ⟨by (with_reducible repeat (first | apply bN | apply bD | apply bA)); refine blk_far ?_ NB118_121.out _; (with_reducible repeat (first | apply bN | apply bD | apply bA)); refine blk_far ?_ NB118_121.out _; (with_reducible repeat (first | apply bN | apply bD | apply bA)); exact BK118.out⟩, ⟨by (with_reducible repeat (first | apply bN | apply bD | apply bA)); refine blk_far ?_ NB119_121.out _; (with_reducible repeat (first | apply bN | apply bD | apply bA)); refine blk_far ?_ NB119_121.out _; (with_reducible repeat (first | apply bN | apply bD | apply bA)); exact BK119.out⟩, ⟨by (with_reducible repeat (first | apply bN | apply bD | apply bA)); refine blk_far ?_ NB120_121.out _; (with_reducible repeat (first | apply bN | apply bD | apply bA)); refine blk_far ?_ NB120_121.out _; (with_reducible repeat (first | apply bN | apply bD | apply bA)); exact BK120.out⟩, ⟨by (with_reducible repeat (first | apply bN | apply bD | apply bA)); refine blk_put (cs := #[.int .u64 0, .int .u64 0]) ?_ 1 _ rfl; (with_reducible repeat (first | apply bN | apply bD | apply bA)); refine blk_put (cs := #[.int .u64 0, .int .u64 0]) ?_ 0 _ rfl; (with_reducible repeat (first | apply bN | apply bD | apply bA)); exact BK121.out⟩, ⟨by repeat (first | (with_reducible first | exact HB.out | apply lA | apply lN | apply lD | refine lS ?_ ‹_›) | exact HB.out)⟩⟩
  ·
   rw [if_neg c17] at H
   have c17b0 : (a1 == 18446744073709551615) = false := beq_eq_false_iff_ne.mpr c17; have c17b1 : (a1 != 18446744073709551615) = true := bne_iff_ne.mpr c17
   (first | rw [c17b0] | (simp only [i64_w, i32_w]; rw [c17b0]) | skip)
   have H' := Aside0.mk H
   clear H
   go_wp2
   go_meet
   case rel => exact ⟨_, (Go.bits .and .u64 a3_0 31), (by first | rfl | (simp; done) | (simp [*]; done)), H', ⟨by first | omega | exact Nat.le_refl _⟩, ⟨by (with_reducible repeat (first | apply bN | apply bD | apply bA)); refine blk_far ?_ NB118_121.out _; (with_reducible repeat (first | apply bN | apply bD | apply bA)); refine blk_far ?_ NB118_121.out _; (with_reducible repeat (first | apply bN | apply bD | apply bA)); exact BK118.out⟩, ⟨by (with_reducible repeat (first | apply bN | apply bD | apply bA)); refine blk_far ?_ NB119_121.out _; (with_reducible repeat (first | apply bN | apply bD | apply bA)); refine blk_far ?_ NB119_121.out _; (with_reducible repeat (first | apply bN | apply bD | apply bA)); exact BK119.out⟩, ⟨by (with_reducible repeat (first | apply bN | apply bD | apply bA)); refine blk_far ?_ NB120_121.out _; (with_reducible repeat (first | apply bN | apply bD | apply bA)); refine blk_far ?_ NB120_121.out _; (with_reducible repeat (first | apply bN | apply bD | apply bA)); exact BK120.out⟩, ⟨by (with_reducible repeat (first | apply bN | apply bD | apply bA)); refine blk_put (cs := #[.int .u64 0, .int .u64 0]) ?_ 1 _ rfl; (with_reducible repeat (first | apply bN | apply bD | apply bA)); refine blk_put (cs := #[.int .u64 0, .int .u64 0]) ?_ 0 _ rfl; (with_reducible repeat (first | apply bN | apply bD | apply bA)); exact BK121.out⟩, ⟨by repeat (first | (with_reducible first | exact HB.out | apply lA | apply lN | apply lD | refine lS ?_ ‹_›) | exact HB.out)⟩⟩
 case rest =>
  clear HC5
  try clear c1
  try clear c2
  try clear p2
  try clear c5
  try clear c10
  try clear c11
  try clear c12
  try clear c14
  try clear c15
  try clear c17
  try clear c17b0
  try clear c17b1
  try clear c18
  try clear c19
  try clear c20
  try clear hcz13_0
  try clear hcz13_1
  try clear hcz16_0
  try clear hcz16_1
  try clear hcz21_0
  try clear hcz21_1
  try clear hfz13_0
  try clear hfz13_1
  try clear hfz16_0
  try clear hfz16_1
  try clear hfz21_0
  try clear hfz21_1
  obtain ⟨kq, x10_4, rfl, HA, HJ4, BK118, BK119, BK120, BK121, HB⟩ := hcut
  cases kq with
  | zero => exact absurd HA.out (by simp [span_do.j0])
  | succ kj4 =>
   have H := HA.out
   clear HA
   simp only [span_do.j0] at H
   by_cases c22 : a0 = 0
   ·
    rw [if_pos c22] at H
    have c22b0 : (a0 == 0) = true := beq_iff_eq.mpr c22; have c22b1 : (a0 != 0) = false := bne_eq_false_iff_eq.mpr c22; clear c22
    by_cases c23 : a2_1 ≤ (IntKind.u64.wrap (a1 - a3_1))
    ·
     rw [if_pos c23] at H
     have c23b0 : decide (a2_1 ≤ (IntKind.u64.wrap (a1 - a3_1))) = true := decide_eq_true c23; clear c23; simp only [Option.some.injEq, Prod.mk.injEq] at H; obtain ⟨rfl, rfl⟩ := H; have hnb24 := NB118_119.out; have hnc24 := NB119_118.out; have hnb25 := NB118_120.out; have hnc25 := NB120_118.out; have hnb26 := NB118_121.out; have hnc26 := NB121_118.out; have hcz27_0 : wc.cell? ⟨gb118, 0, none⟩ = some (.int .u64 a2_0) := (blk_cell BK118.out 0).trans rfl; have hcz27_1 : wc.cell? ⟨gb118, 1, none⟩ = some (.int .u64 a2_1) := (blk_cell BK118.out 1).trans rfl; have hfz27_0 := blk_frozen BK118.out 0; have hfz27_1 := blk_frozen BK118.out 1; have hnb28 := NB119_120.out; have hnc28 := NB120_119.out; have hnb29 := NB119_121.out; have hnc29 := NB121_119.out; have hcz30_0 : wc.cell? ⟨gb119, 0, none⟩ = some (.int .u64 a3_0) := (blk_cell BK119.out 0).trans rfl; have hcz30_1 : wc.cell? ⟨gb119, 1, none⟩ = some (.int .u64 a3_1) := (blk_cell BK119.out 1).trans rfl; have hfz30_0 := blk_frozen BK119.out 0; have hfz30_1 := blk_frozen BK119.out 1; have hnb31 := NB120_121.out; have hnc31 := NB121_120.out; have hcz32_0 : wc.cell? ⟨gb120, 0, none⟩ = some (.int .u64 0) := (blk_cell BK120.out 0).trans rfl; have hcz32_1 : wc.cell? ⟨gb120, 1, none⟩ = some (.int .u64 0) := (blk_cell BK120.out 1).trans rfl; have hfz32_0 := blk_frozen BK120.out 0; have hfz32_1 := blk_frozen BK120.out 1
     go_wp2
     refine bodyPost_ret (results_cell_row rfl _ _ gb120 58 #[.int .u64 (IntKind.u64.wrap (a2_0 + a3_0)), .int .u64 (IntKind.u64.wrap (a2_1 + a3_1))] (0, 0) _ rfl (by (with_reducible repeat (first | apply bN | apply bD | apply bA)); refine blk_put (cs := #[.int .u64 (IntKind.u64.wrap (a2_0 + a3_0)), .int .u64 0]) ?_ 1 _ rfl; (with_reducible repeat (first | apply bN | apply bD | apply bA)); refine blk_put (cs := #[.int .u64 0, .int .u64 0]) ?_ 0 _ rfl; (with_reducible repeat (first | apply bN | apply bD | apply bA)); exact BK120.out) Try.underlying58 rfl (by kernel_rfl)) rfl ?_
     exact ⟨by first | rfl | (simp [errW_none, errW_some] <;> rfl) | (simp [*, errW_none, errW_some] <;> rfl), by repeat (first | (with_reducible first | exact HB.out | apply lA | apply lN | apply lD | refine lS ?_ ‹_›) | exact HB.out)⟩
    ·
     rw [if_neg c23] at H
     have c23b0 : decide (a2_1 ≤ (IntKind.u64.wrap (a1 - a3_1))) = false := decide_eq_false c23; clear c23; simp only [Option.some.injEq, Prod.mk.injEq] at H; obtain ⟨rfl, rfl⟩ := H; have hnb33 := NB118_119.out; have hnc33 := NB119_118.out; have hnb34 := NB118_120.out; have hnc34 := NB120_118.out; have hnb35 := NB118_121.out; have hnc35 := NB121_118.out; have hcz36_0 : wc.cell? ⟨gb118, 0, none⟩ = some (.int .u64 a2_0) := (blk_cell BK118.out 0).trans rfl; have hcz36_1 : wc.cell? ⟨gb118, 1, none⟩ = some (.int .u64 a2_1) := (blk_cell BK118.out 1).trans rfl; have hfz36_0 := blk_frozen BK118.out 0; have hfz36_1 := blk_frozen BK118.out 1; have hnb37 := NB119_120.out; have hnc37 := NB120_119.out; have hnb38 := NB119_121.out; have hnc38 := NB121_119.out; have hcz39_0 : wc.cell? ⟨gb119, 0, none⟩ = some (.int .u64 a3_0) := (blk_cell BK119.out 0).trans rfl; have hcz39_1 : wc.cell? ⟨gb119, 1, none⟩ = some (.int .u64 a3_1) := (blk_cell BK119.out 1).trans rfl; have hfz39_0 := blk_frozen BK119.out 0; have hfz39_1 := blk_frozen BK119.out 1; have hnb40 := NB121_120.out; have hnc40 := NB120_121.out; have hcz41_0 : wc.cell? ⟨gb121, 0, none⟩ = some (.int .u64 0) := (blk_cell BK121.out 0).trans rfl; have hcz41_1 : wc.cell? ⟨gb121, 1, none⟩ = some (.int .u64 a1) := (blk_cell BK121.out 1).trans rfl; have hfz41_0 := blk_frozen BK121.out 0; have hfz41_1 := blk_frozen BK121.out 1; have hcz42_0 : wc.cell? ⟨gb120, 0, none⟩ = some (.int .u64 0) := (blk_cell BK120.out 0).trans rfl; have hcz42_1 : wc.cell? ⟨gb120, 1, none⟩ = some (.int .u64 0) := (blk_cell BK120.out 1).trans rfl
     have hfz42_0 := blk_frozen BK120.out 0; have hfz42_1 := blk_frozen BK120.out 1
     go_wp2
     refine bodyPost_ret (results_cell_row rfl _ _ gb120 58 #[.int .u64 0, .int .u64 a1] (0, 0) _ rfl (by (with_reducible repeat (first | apply bN | apply bD | apply bA)); refine blk_put (cs := #[.int .u64 0, .int .u64 0]) ?_ 1 _ rfl; (with_reducible repeat (first | apply bN | apply bD | apply bA)); refine blk_put (cs := #[.int .u64 0, .int .u64 0]) ?_ 0 _ rfl; (with_reducible repeat (first | apply bN | apply bD | apply bA)); exact BK120.out) Try.underlying58 rfl (by kernel_rfl)) rfl ?_
     exact ⟨by first | rfl | (simp [errW_none, errW_some] <;> rfl) | (simp [*, errW_none, errW_some] <;> rfl), by repeat (first | (with_reducible first | exact HB.out | apply lA | apply lN | apply lD | refine lS ?_ ‹_›) | exact HB.out)⟩
   ·
    rw [if_neg c22] at H
    have c22b0 : (a0 == 0) = false := beq_eq_false_iff_ne.mpr c22; have c22b1 : (a0 != 0) = true := bne_iff_ne.mpr c22
    by_cases c43 : a0 = 16
    ·
     rw [if_pos c43] at H
     have c43b0 : (a0 == 16) = true := beq_iff_eq.mpr c43; have c43b1 : (a0 != 16) = false := bne_eq_false_iff_eq.mpr c43; clear c43
     by_cases c44 : a2_0 ≥ a3_1
     ·
      rw [if_pos c44] at H
      have c44b0 : decide (a3_1 ≤ a2_0) = true := decide_eq_true c44; clear c44; simp only [Option.some.injEq, Prod.mk.injEq] at H; obtain ⟨rfl, rfl⟩ := H; have hnb45 := NB118_119.out; have hnc45 := NB119_118.out; have hnb46 := NB118_120.out; have hnc46 := NB120_118.out; have hnb47 := NB118_121.out; have hnc47 := NB121_118.out; have hcz48_0 : wc.cell? ⟨gb118, 0, none⟩ = some (.int .u64 a2_0) := (blk_cell BK118.out 0).trans rfl; have hcz48_1 : wc.cell? ⟨gb118, 1, none⟩ = some (.int .u64 a2_1) := (blk_cell BK118.out 1).trans rfl; have hfz48_0 := blk_frozen BK118.out 0; have hfz48_1 := blk_frozen BK118.out 1; have hnb49 := NB119_120.out; have hnc49 := NB120_119.out; have hnb50 := NB119_121.out; have hnc50 := NB121_119.out; have hcz51_0 : wc.cell? ⟨gb119, 0, none⟩ = some (.int .u64 a3_0) := (blk_cell BK119.out 0).trans rfl; have hcz51_1 : wc.cell? ⟨gb119, 1, none⟩ = some (.int .u64 a3_1) := (blk_cell BK119.out 1).trans rfl; have hfz51_0 := blk_frozen BK119.out 0; have hfz51_1 := blk_frozen BK119.out 1; have hnb52 := NB120_121.out; have hnc52 := NB121_120.out; have hcz53_0 : wc.cell? ⟨gb120, 0, none⟩ = some (.int .u64 0) := (blk_cell BK120.out 0).trans rfl; have hcz53_1 : wc.cell? ⟨gb120, 1, none⟩ = some (.int .u64 0) := (blk_cell BK120.out 1).trans rfl; have hfz53_0 := blk_frozen BK120.out 0; have hfz53_1 := blk_frozen BK120.out 1
      go_wp2
      refine bodyPost_ret (results_cell_row rfl _ _ gb120 58 #[.int .u64 (IntKind.u64.wrap (a2_0 - a3_1)), .int .u64 (IntKind.u64.wrap (a2_1 - a3_0))] (0, 0) _ rfl (by (with_reducible repeat (first | apply bN | apply bD | apply bA)); refine blk_put (cs := #[.int .u64 (IntKind.u64.wrap (a2_0 - a3_1)), .int .u64 0]) ?_ 1 _ rfl; (with_reducible repeat (first | apply bN | apply bD | apply bA)); refine blk_put (cs := #[.int .u64 0, .int .u64 0]) ?_ 0 _ rfl; (with_reducible repeat (first | apply bN | apply bD | apply bA)); exact BK120.out) Try.underlying58 rfl (by kernel_rfl)) rfl ?_
      exact ⟨by first | rfl | (simp [errW_none, errW_some] <;> rfl) | (simp [*, errW_none, errW_some] <;> rfl), by repeat (first | (with_reducible first | exact HB.out | apply lA | apply lN | apply lD | refine lS ?_ ‹_›) | exact HB.out)⟩
     ·
      rw [if_neg c44] at H
      have c44b0 : decide (a3_1 ≤ a2_0) = false := decide_eq_false c44; clear c44; simp only [Option.some.injEq, Prod.mk.injEq] at H; obtain ⟨rfl, rfl⟩ := H; have hnb54 := NB118_119.out; have hnc54 := NB119_118.out; have hnb55 := NB118_120.out; have hnc55 := NB120_118.out; have hnb56 := NB118_121.out; have hnc56 := NB121_118.out; have hcz57_0 : wc.cell? ⟨gb118, 0, none⟩ = some (.int .u64 a2_0) := (blk_cell BK118.out 0).trans rfl; have hcz57_1 : wc.cell? ⟨gb118, 1, none⟩ = some (.int .u64 a2_1) := (blk_cell BK118.out 1).trans rfl; have hfz57_0 := blk_frozen BK118.out 0; have hfz57_1 := blk_frozen BK118.out 1; have hnb58 := NB119_120.out; have hnc58 := NB120_119.out; have hnb59 := NB119_121.out; have hnc59 := NB121_119.out; have hcz60_0 : wc.cell? ⟨gb119, 0, none⟩ = some (.int .u64 a3_0) := (blk_cell BK119.out 0).trans rfl; have hcz60_1 : wc.cell? ⟨gb119, 1, none⟩ = some (.int .u64 a3_1) := (blk_cell BK119.out 1).trans rfl; have hfz60_0 := blk_frozen BK119.out 0; have hfz60_1 := blk_frozen BK119.out 1; have hnb61 := NB121_120.out; have hnc61 := NB120_121.out; have hcz62_0 : wc.cell? ⟨gb121, 0, none⟩ = some (.int .u64 0) := (blk_cell BK121.out 0).trans rfl; have hcz62_1 : wc.cell? ⟨gb121, 1, none⟩ = some (.int .u64 a1) := (blk_cell BK121.out 1).trans rfl; have hfz62_0 := blk_frozen BK121.out 0; have hfz62_1 := blk_frozen BK121.out 1; have hcz63_0 : wc.cell? ⟨gb120, 0, none⟩ = some (.int .u64 0) := (blk_cell BK120.out 0).trans rfl; have hcz63_1 : wc.cell? ⟨gb120, 1, none⟩ = some (.int .u64 0) := (blk_cell BK120.out 1).trans rfl
      have hfz63_0 := blk_frozen BK120.out 0; have hfz63_1 := blk_frozen BK120.out 1
      go_wp2
      refine bodyPost_ret (results_cell_row rfl _ _ gb120 58 #[.int .u64 0, .int .u64 a1] (0, 0) _ rfl (by (with_reducible repeat (first | apply bN | apply bD | apply bA)); refine blk_put (cs := #[.int .u64 0, .int .u64 0]) ?_ 1 _ rfl; (with_reducible repeat (first | apply bN | apply bD | apply bA)); refine blk_put (cs := #[.int .u64 0, .int .u64 0]) ?_ 0 _ rfl; (with_reducible repeat (first | apply bN | apply bD | apply bA)); exact BK120.out) Try.underlying58 rfl (by kernel_rfl)) rfl ?_
      exact ⟨by first | rfl | (simp [errW_none, errW_some] <;> rfl) | (simp [*, errW_none, errW_some] <;> rfl), by repeat (first | (with_reducible first | exact HB.out | apply lA | apply lN | apply lD | refine lS ?_ ‹_›) | exact HB.out)⟩
    ·
     rw [if_neg c43] at H
     have c43b0 : (a0 == 16) = false := beq_eq_false_iff_ne.mpr c43; have c43b1 : (a0 != 16) = true := bne_iff_ne.mpr c43
     by_cases c64 : a0 = 32
     ·
      rw [if_pos c64] at H
      have c64b0 : (a0 == 32) = true := beq_iff_eq.mpr c64; have c64b1 : (a0 != 32) = false := bne_eq_false_iff_eq.mpr c64; clear c64; replace H := Option.bind_eq_some_iff.mp H; obtain ⟨⟨t122, t123⟩, A650, H⟩ := H
      replace H : (if t122 = 0 then (if t123 ≤ a1 then (some (IntKind.u64.wrap (a2_0 * a3_0), t123)) else (some (0, a1))) else (some (0, a1))) = some (r1, r2) := H
      have A65 := Aside0.mk A650; clear A650
      by_cases c66 : t122 = 0
      ·
       rw [if_pos c66] at H
       have c66b0 : (t122 == 0) = true := beq_iff_eq.mpr c66; have c66b1 : (t122 != 0) = false := bne_eq_false_iff_eq.mpr c66; clear c66
       by_cases c67 : t123 ≤ a1
       ·
        rw [if_pos c67] at H
        have c67b0 : decide (t123 ≤ a1) = true := decide_eq_true c67; clear c67; simp only [Option.some.injEq, Prod.mk.injEq] at H; obtain ⟨rfl, rfl⟩ := H; have hnb68 := NB118_119.out; have hnc68 := NB119_118.out; have hnb69 := NB118_120.out; have hnc69 := NB120_118.out; have hnb70 := NB118_121.out; have hnc70 := NB121_118.out; have hcz71_0 : wc.cell? ⟨gb118, 0, none⟩ = some (.int .u64 a2_0) := (blk_cell BK118.out 0).trans rfl; have hcz71_1 : wc.cell? ⟨gb118, 1, none⟩ = some (.int .u64 a2_1) := (blk_cell BK118.out 1).trans rfl; have hfz71_0 := blk_frozen BK118.out 0; have hfz71_1 := blk_frozen BK118.out 1; have hnb72 := NB119_120.out; have hnc72 := NB120_119.out; have hnb73 := NB119_121.out; have hnc73 := NB121_119.out; have hcz74_0 : wc.cell? ⟨gb119, 0, none⟩ = some (.int .u64 a3_0) := (blk_cell BK119.out 0).trans rfl; have hcz74_1 : wc.cell? ⟨gb119, 1, none⟩ = some (.int .u64 a3_1) := (blk_cell BK119.out 1).trans rfl; have hfz74_0 := blk_frozen BK119.out 0; have hfz74_1 := blk_frozen BK119.out 1
        go_wp2_with (first | ((with_reducible refine gate_callee (f := 59) rfl ?_); refine goesL_ (some 69) rfl rfl Try.func59 (by kernel_rfl) rfl #[.int .u64 a2_1, .int .u64 a3_1] rfl (by (try simp only [List.map_toArray, List.map_cons, List.map_nil]); first | done | rfl | (simp only [List.length_drop, List.length_take]; rfl)) ?_; (with_reducible refine (bits_Mul64.calls a2_1 a3_1 t122 t123 _ A65.out).mono ?_); rintro e w' ⟨rfl, ⟨nd, rfl⟩⟩; refine ⟨_, rfl, ?_⟩; (try (rw [drewN_self wc]; generalize hq_ : World.drewN wc _ = wc; have n0_ : Aside0 (wc.heap[gb118]? = some (.cells #[.int .u64 a2_0, .int .u64 a2_1] 58 (0, 0))) := ⟨by rw [← hq_]; exact (by (with_reducible repeat (first | apply bN | apply bD | apply bA)); exact BK118.out)⟩; have n1_ : Aside0 (wc.heap[gb119]? = some (.cells #[.int .u64 a3_0, .int .u64 a3_1] 58 (0, 0))) := ⟨by rw [← hq_]; exact (by (with_reducible repeat (first | apply bN | apply bD | apply bA)); exact BK119.out)⟩; have n2_ : Aside0 (wc.heap[gb120]? = some (.cells #[.int .u64 0, .int .u64 0] 58 (0, 0))) := ⟨by rw [← hq_]; exact (by (with_reducible repeat (first | apply bN | apply bD | apply bA)); exact BK120.out)⟩; have n3_ : Aside0 (wc.heap[gb121]? = some (.cells #[.int .u64 0, .int .u64 a1] 58 (0, 0))) := ⟨by rw [← hq_]; exact (by (with_reducible repeat (first | apply bN | apply bD | apply bA)); exact BK121.out)⟩; have n4_ : Aside0 (Below w.heap.size w wc) := ⟨by rw [← hq_]; exact (by repeat (first | (with_reducible first | exact HB.out | apply lA | apply lN | apply lD | refine lS ?_ ‹_›) | exact HB.out))⟩; clear BK118 BK119 BK120 BK121 HB hq_; have BK118 := n0_; have BK119 := n1_; have BK120 := n2_; have BK121 := n3_; have HB := n4_; clear n0_ n1_ n2_ n3_ n4_)); have hcz71_0 : wc.cell? ⟨gb118, 0, none⟩ = some (.int .u64 a2_0) := (blk_cell BK118.out 0).trans rfl; have hcz71_1 : wc.cell? ⟨gb118, 1, none⟩ = some (.int .u64 a2_1) := (blk_cell BK118.out 1).trans rfl; have hfz71_0 := blk_frozen BK118.out 0; have hfz71_1 := blk_frozen BK118.out 1; have hcz74_0 : wc.cell? ⟨gb119, 0, none⟩ = some (.int .u64 a3_0) := (blk_cell BK119.out 0).trans rfl; have hcz74_1 : wc.cell? ⟨gb119, 1, none⟩ = some (.int .u64 a3_1) := (blk_cell BK119.out 1).trans rfl; have hfz74_0 := blk_frozen BK119.out 0; have hfz74_1 := blk_frozen BK119.out 1; have hnb75 := NB120_121.out; have hnc75 := NB121_120.out; have hcz76_0 : wc.cell? ⟨gb120, 0, none⟩ = some (.int .u64 0) := (blk_cell BK120.out 0).trans rfl; have hcz76_1 : wc.cell? ⟨gb120, 1, none⟩ = some (.int .u64 0) := (blk_cell BK120.out 1).trans rfl; have hfz76_0 := blk_frozen BK120.out 0; have hfz76_1 := blk_frozen BK120.out 1))
        refine bodyPost_ret (results_cell_row rfl _ _ gb120 58 #[.int .u64 (IntKind.u64.wrap (a2_0 * a3_0)), .int .u64 t123] (0, 0) _ rfl (by (with_reducible repeat (first | apply bN | apply bD | apply bA)); refine blk_put (cs := #[.int .u64 (IntKind.u64.wrap (a2_0 * a3_0)), .int .u64 0]) ?_ 1 _ rfl; (with_reducible repeat (first | apply bN | apply bD | apply bA)); refine blk_put (cs := #[.int .u64 0, .int .u64 0]) ?_ 0 _ rfl; (with_reducible repeat (first | apply bN | apply bD | apply bA)); exact BK120.out) Try.underlying58 rfl (by kernel_rfl)) rfl ?_
        exact ⟨by first | rfl | (simp [errW_none, errW_some] <;> rfl) | (simp [*, errW_none, errW_some] <;> rfl), by repeat (first | (with_reducible first | exact HB.out | apply lA | apply lN | apply lD | refine lS ?_ ‹_›) | exact HB.out)⟩
       ·
        rw [if_neg c67] at H
        have c67b0 : decide (t123 ≤ a1) = false := decide_eq_false c67; clear c67; simp only [Option.some.injEq, Prod.mk.injEq] at H; obtain ⟨rfl, rfl⟩ := H; have hnb77 := NB118_119.out; have hnc77 := NB119_118.out; have hnb78 := NB118_120.out; have hnc78 := NB120_118.out; have hnb79 := NB118_121.out; have hnc79 := NB121_118.out; have hcz80_0 : wc.cell? ⟨gb118, 0, none⟩ = some (.int .u64 a2_0) := (blk_cell BK118.out 0).trans rfl; have hcz80_1 : wc.cell? ⟨gb118, 1, none⟩ = some (.int .u64 a2_1) := (blk_cell BK118.out 1).trans rfl; have hfz80_0 := blk_frozen BK118.out 0; have hfz80_1 := blk_frozen BK118.out 1; have hnb81 := NB119_120.out; have hnc81 := NB120_119.out; have hnb82 := NB119_121.out; have hnc82 := NB121_119.out; have hcz83_0 : wc.cell? ⟨gb119, 0, none⟩ = some (.int .u64 a3_0) := (blk_cell BK119.out 0).trans rfl; have hcz83_1 : wc.cell? ⟨gb119, 1, none⟩ = some (.int .u64 a3_1) := (blk_cell BK119.out 1).trans rfl; have hfz83_0 := blk_frozen BK119.out 0; have hfz83_1 := blk_frozen BK119.out 1
        go_wp2_with (first | ((with_reducible refine gate_callee (f := 59) rfl ?_); refine goesL_ (some 69) rfl rfl Try.func59 (by kernel_rfl) rfl #[.int .u64 a2_1, .int .u64 a3_1] rfl (by (try simp only [List.map_toArray, List.map_cons, List.map_nil]); first | done | rfl | (simp only [List.length_drop, List.length_take]; rfl)) ?_; (with_reducible refine (bits_Mul64.calls a2_1 a3_1 t122 t123 _ A65.out).mono ?_); rintro e w' ⟨rfl, ⟨nd, rfl⟩⟩; refine ⟨_, rfl, ?_⟩; (try (rw [drewN_self wc]; generalize hq_ : World.drewN wc _ = wc; have n0_ : Aside0 (wc.heap[gb118]? = some (.cells #[.int .u64 a2_0, .int .u64 a2_1] 58 (0, 0))) := ⟨by rw [← hq_]; exact (by (with_reducible repeat (first | apply bN | apply bD | apply bA)); exact BK118.out)⟩; have n1_ : Aside0 (wc.heap[gb119]? = some (.cells #[.int .u64 a3_0, .int .u64 a3_1] 58 (0, 0))) := ⟨by rw [← hq_]; exact (by (with_reducible repeat (first | apply bN | apply bD | apply bA)); exact BK119.out)⟩; have n2_ : Aside0 (wc.heap[gb120]? = some (.cells #[.int .u64 0, .int .u64 0] 58 (0, 0))) := ⟨by rw [← hq_]; exact (by (with_reducible repeat (first | apply bN | apply bD | apply bA)); exact BK120.out)⟩; have n3_ : Aside0 (wc.heap[gb121]? = some (.cells #[.int .u64 0, .int .u64 a1] 58 (0, 0))) := ⟨by rw [← hq_]; exact (by (with_reducible repeat (first | apply bN | apply bD | apply bA)); exact BK121.out)⟩; have n4_ : Aside0 (Below w.heap.size w wc) := ⟨by rw [← hq_]; exact (by repeat (first | (with_reducible first | exact HB.out | apply lA | apply lN | apply lD | refine lS ?_ ‹_›) | exact HB.out))⟩; clear BK118 BK119 BK120 BK121 HB hq_; have BK118 := n0_; have BK119 := n1_; have BK120 := n2_; have BK121 := n3_; have HB := n4_; clear n0_ n1_ n2_ n3_ n4_)); have hcz80_0 : wc.cell? ⟨gb118, 0, none⟩ = some (.int .u64 a2_0) := (blk_cell BK118.out 0).trans rfl; have hcz80_1 : wc.cell? ⟨gb118, 1, none⟩ = some (.int .u64 a2_1) := (blk_cell BK118.out 1).trans rfl; have hfz80_0 := blk_frozen BK118.out 0; have hfz80_1 := blk_frozen BK118.out 1; have hcz83_0 : wc.cell? ⟨gb119, 0, none⟩ = some (.int .u64 a3_0) := (blk_cell BK119.out 0).trans rfl; have hcz83_1 : wc.cell? ⟨gb119, 1, none⟩ = some (.int .u64 a3_1) := (blk_cell BK119.out 1).trans rfl; have hfz83_0 := blk_frozen BK119.out 0; have hfz83_1 := blk_frozen BK119.out 1; have hnb84 := NB121_120.out; have hnc84 := NB120_121.out; have hcz85_0 : wc.cell? ⟨gb121, 0, none⟩ = some (.int .u64 0) := (blk_cell BK121.out 0).trans rfl; have hcz85_1 : wc.cell? ⟨gb121, 1, none⟩ = some (.int .u64 a1) := (blk_cell BK121.out 1).trans rfl; have hfz85_0 := blk_frozen BK121.out 0; have hfz85_1 := blk_frozen BK121.out 1; have hcz86_0 : wc.cell? ⟨gb120, 0, none⟩ = some (.int .u64 0) := (blk_cell BK120.out 0).trans rfl; have hcz86_1 : wc.cell? ⟨gb120, 1, none⟩ = some (.int .u64 0) := (blk_cell BK120.out 1).trans rfl; have hfz86_0 := blk_frozen BK120.out 0; have hfz86_1 := blk_frozen BK120.out 1))
        refine bodyPost_ret (results_cell_row rfl _ _ gb120 58 #[.int .u64 0, .int .u64 a1] (0, 0) _ rfl (by (with_reducible repeat (first | apply bN | apply bD | apply bA)); refine blk_put (cs := #[.int .u64 0, .int .u64 0]) ?_ 1 _ rfl; (with_reducible repeat (first | apply bN | apply bD | apply bA)); refine blk_put (cs := #[.int .u64 0, .int .u64 0]) ?_ 0 _ rfl; (with_reducible repeat (first | apply bN | apply bD | apply bA)); exact BK120.out) Try.underlying58 rfl (by kernel_rfl)) rfl ?_
        exact ⟨by first | rfl | (simp [errW_none, errW_some] <;> rfl) | (simp [*, errW_none, errW_some] <;> rfl), by repeat (first | (with_reducible first | exact HB.out | apply lA | apply lN | apply lD | refine lS ?_ ‹_›) | exact HB.out)⟩
      ·
       rw [if_neg c66] at H
       have c66b0 : (t122 == 0) = false := beq_eq_false_iff_ne.mpr c66; have c66b1 : (t122 != 0) = true := bne_iff_ne.mpr c66; simp only [Option.some.injEq, Prod.mk.injEq] at H; obtain ⟨rfl, rfl⟩ := H; have hnb87 := NB118_119.out; have hnc87 := NB119_118.out; have hnb88 := NB118_120.out; have hnc88 := NB120_118.out; have hnb89 := NB118_121.out; have hnc89 := NB121_118.out; have hcz90_0 : wc.cell? ⟨gb118, 0, none⟩ = some (.int .u64 a2_0) := (blk_cell BK118.out 0).trans rfl; have hcz90_1 : wc.cell? ⟨gb118, 1, none⟩ = some (.int .u64 a2_1) := (blk_cell BK118.out 1).trans rfl; have hfz90_0 := blk_frozen BK118.out 0; have hfz90_1 := blk_frozen BK118.out 1; have hnb91 := NB119_120.out; have hnc91 := NB120_119.out; have hnb92 := NB119_121.out; have hnc92 := NB121_119.out; have hcz93_0 : wc.cell? ⟨gb119, 0, none⟩ = some (.int .u64 a3_0) := (blk_cell BK119.out 0).trans rfl; have hcz93_1 : wc.cell? ⟨gb119, 1, none⟩ = some (.int .u64 a3_1) := (blk_cell BK119.out 1).trans rfl; have hfz93_0 := blk_frozen BK119.out 0; have hfz93_1 := blk_frozen BK119.out 1
       go_wp2_with (first | ((with_reducible refine gate_callee (f := 59) rfl ?_); refine goesL_ (some 69) rfl rfl Try.func59 (by kernel_rfl) rfl #[.int .u64 a2_1, .int .u64 a3_1] rfl (by (try simp only [List.map_toArray, List.map_cons, List.map_nil]); first | done | rfl | (simp only [List.length_drop, List.length_take]; rfl)) ?_; (with_reducible refine (bits_Mul64.calls a2_1 a3_1 t122 t123 _ A65.out).mono ?_); rintro e w' ⟨rfl, ⟨nd, rfl⟩⟩; refine ⟨_, rfl, ?_⟩; (try (rw [drewN_self wc]; generalize hq_ : World.drewN wc _ = wc; have n0_ : Aside0 (wc.heap[gb118]? = some (.cells #[.int .u64 a2_0, .int .u64 a2_1] 58 (0, 0))) := ⟨by rw [← hq_]; exact (by (with_reducible repeat (first | apply bN | apply bD | apply bA)); exact BK118.out)⟩; have n1_ : Aside0 (wc.heap[gb119]? = some (.cells #[.int .u64 a3_0, .int .u64 a3_1] 58 (0, 0))) := ⟨by rw [← hq_]; exact (by (with_reducible repeat (first | apply bN | apply bD | apply bA)); exact BK119.out)⟩; have n2_ : Aside0 (wc.heap[gb120]? = some (.cells #[.int .u64 0, .int .u64 0] 58 (0, 0))) := ⟨by rw [← hq_]; exact (by (with_reducible repeat (first | apply bN | apply bD | apply bA)); exact BK120.out)⟩; have n3_ : Aside0 (wc.heap[gb121]? = some (.cells #[.int .u64 0, .int .u64 a1] 58 (0, 0))) := ⟨by rw [← hq_]; exact (by (with_reducible repeat (first | apply bN | apply bD | apply bA)); exact BK121.out)⟩; have n4_ : Aside0 (Below w.heap.size w wc) := ⟨by rw [← hq_]; exact (by repeat (first | (with_reducible first | exact HB.out | apply lA | apply lN | apply lD | refine lS ?_ ‹_›) | exact HB.out))⟩; clear BK118 BK119 BK120 BK121 HB hq_; have BK118 := n0_; have BK119 := n1_; have BK120 := n2_; have BK121 := n3_; have HB := n4_; clear n0_ n1_ n2_ n3_ n4_)); have hcz90_0 : wc.cell? ⟨gb118, 0, none⟩ = some (.int .u64 a2_0) := (blk_cell BK118.out 0).trans rfl; have hcz90_1 : wc.cell? ⟨gb118, 1, none⟩ = some (.int .u64 a2_1) := (blk_cell BK118.out 1).trans rfl; have hfz90_0 := blk_frozen BK118.out 0; have hfz90_1 := blk_frozen BK118.out 1; have hcz93_0 : wc.cell? ⟨gb119, 0, none⟩ = some (.int .u64 a3_0) := (blk_cell BK119.out 0).trans rfl; have hcz93_1 : wc.cell? ⟨gb119, 1, none⟩ = some (.int .u64 a3_1) := (blk_cell BK119.out 1).trans rfl; have hfz93_0 := blk_frozen BK119.out 0; have hfz93_1 := blk_frozen BK119.out 1; have hnb94 := NB121_120.out; have hnc94 := NB120_121.out; have hcz95_0 : wc.cell? ⟨gb121, 0, none⟩ = some (.int .u64 0) := (blk_cell BK121.out 0).trans rfl; have hcz95_1 : wc.cell? ⟨gb121, 1, none⟩ = some (.int .u64 a1) := (blk_cell BK121.out 1).trans rfl; have hfz95_0 := blk_frozen BK121.out 0; have hfz95_1 := blk_frozen BK121.out 1; have hcz96_0 : wc.cell? ⟨gb120, 0, none⟩ = some (.int .u64 0) := (blk_cell BK120.out 0).trans rfl; have hcz96_1 : wc.cell? ⟨gb120, 1, none⟩ = some (.int .u64 0) := (blk_cell BK120.out 1).trans rfl; have hfz96_0 := blk_frozen BK120.out 0; have hfz96_1 := blk_frozen BK120.out 1))
       refine bodyPost_ret (results_cell_row rfl _ _ gb120 58 #[.int .u64 0, .int .u64 a1] (0, 0) _ rfl (by (with_reducible repeat (first | apply bN | apply bD | apply bA)); refine blk_put (cs := #[.int .u64 0, .int .u64 0]) ?_ 1 _ rfl; (with_reducible repeat (first | apply bN | apply bD | apply bA)); refine blk_put (cs := #[.int .u64 0, .int .u64 0]) ?_ 0 _ rfl; (with_reducible repeat (first | apply bN | apply bD | apply bA)); exact BK120.out) Try.underlying58 rfl (by kernel_rfl)) rfl ?_
       exact ⟨by first | rfl | (simp [errW_none, errW_some] <;> rfl) | (simp [*, errW_none, errW_some] <;> rfl), by repeat (first | (with_reducible first | exact HB.out | apply lA | apply lN | apply lD | refine lS ?_ ‹_›) | exact HB.out)⟩
     ·
      rw [if_neg c64] at H
      have c64b0 : (a0 == 32) = false := beq_eq_false_iff_ne.mpr c64; have c64b1 : (a0 != 32) = true := bne_iff_ne.mpr c64
      by_cases c97 : a0 = 48
      ·
       rw [if_pos c97] at H
       have c97b0 : (a0 == 48) = true := beq_iff_eq.mpr c97; have c97b1 : (a0 != 48) = false := bne_eq_false_iff_eq.mpr c97; clear c97
       by_cases c98 : a3_0 > 0
       ·
        rw [if_pos c98] at H
        have c98b0 : decide (0 < a3_0) = true := decide_eq_true c98; clear c98
        by_cases c99 : a3_1 = 0
        ·
         rw [if_pos c99] at H
         exact absurd H (by simp)
        ·
         rw [if_neg c99] at H
         have c99b0 : (a3_1 == 0) = false := beq_eq_false_iff_ne.mpr c99; have c99b1 : (a3_1 != 0) = true := bne_iff_ne.mpr c99
         by_cases c100 : a3_0 = 0
         ·
          rw [if_pos c100] at H
          exact absurd H (by simp)
         ·
          rw [if_neg c100] at H
          have c100b0 : (a3_0 == 0) = false := beq_eq_false_iff_ne.mpr c100; have c100b1 : (a3_0 != 0) = true := bne_iff_ne.mpr c100; simp only [Option.some.injEq, Prod.mk.injEq] at H; obtain ⟨rfl, rfl⟩ := H; have hnb101 := NB119_118.out; have hnc101 := NB118_119.out; have hnb102 := NB119_120.out; have hnc102 := NB120_119.out; have hnb103 := NB119_121.out; have hnc103 := NB121_119.out; have hcz104_0 : wc.cell? ⟨gb119, 0, none⟩ = some (.int .u64 a3_0) := (blk_cell BK119.out 0).trans rfl; have hcz104_1 : wc.cell? ⟨gb119, 1, none⟩ = some (.int .u64 a3_1) := (blk_cell BK119.out 1).trans rfl; have hfz104_0 := blk_frozen BK119.out 0; have hfz104_1 := blk_frozen BK119.out 1
          try go_wp2
          have n0_ := Aside0.mk (blk_drew BK118.out); have n1_ := Aside0.mk (blk_drew BK119.out); have n2_ := Aside0.mk (blk_drew BK120.out); have n3_ := Aside0.mk (blk_drew BK121.out)
          have n4_ := Aside0.mk (below_drew1 HB.out)
          clear BK118; clear BK119; clear BK120; clear BK121; clear HB; have BK118 := n0_; have BK119 := n1_; have BK120 := n2_; have BK121 := n3_; have HB := n4_; clear n0_ n1_ n2_ n3_ n4_
          refine start_ (n := 12) (S := fun w' => w'.cell? ⟨gb118, 0, none⟩ = some (.int .u64 a2_0) ∧ w'.cell? ⟨gb118, 1, none⟩ = some (.int .u64 a2_1) ∧ w'.cell? ⟨gb119, 0, none⟩ = some (.int .u64 a3_0) ∧ w'.cell? ⟨gb119, 1, none⟩ = some (.int .u64 a3_1)) (ds := []) #[false, false, false, false, false, false, false, false, false, false, false, false] (by kernel_rfl) rfl rfl ⟨(blk_cell BK118.out 0).trans rfl, (blk_cell BK118.out 1).trans rfl, (blk_cell BK119.out 0).trans rfl, (blk_cell BK119.out 1).trans rfl⟩ (fun hHeld => ?_); refine with_tabW span_do.tab18 span_do.bits18 (fun HT_ HW_ => ?_)
          generalize wc.drew = w105 at BK118 BK119 BK120 BK121 HB hHeld ⊢
          refine pure_ (i := 0) (N := some 91) (v := ?_) (a' := ?_) #[true, false, false, false, false, false, false, false, false, false, false, false] rfl rfl (any_of HT_.out (by kernel_rfl)) (fun _ _ _ h => h) (Or.inl ⟨by rfl, ?_⟩) ?_ ?_
          rotate_left
          ·
           intro w'
           go_simp; with_reducible rfl
          rotate_left
          ·
           simp only [Act.put, List.setIfInBounds_toArray, List.set_cons_zero, List.set_cons_succ, i64_w, i32_w]
           rfl
          refine pure_ (i := 2) (N := some 93) (v := ?_) (a' := ?_) #[true, false, true, false, false, false, false, false, false, false, false, false] rfl rfl (any_of HT_.out (by kernel_rfl)) (fun _ _ _ h => h) (Or.inl ⟨by rfl, ?_⟩) ?_ ?_
          rotate_left
          ·
           intro w'
           go_simp; with_reducible rfl
          rotate_left
          ·
           simp only [Act.put, List.setIfInBounds_toArray, List.set_cons_zero, List.set_cons_succ, i64_w, i32_w]
           rfl
          refine pure_ (i := 5) (N := some 96) (v := ?_) (a' := ?_) #[true, false, true, false, false, true, false, false, false, false, false, false] rfl rfl (any_of HT_.out (by kernel_rfl)) (fun _ _ _ h => h) (Or.inl ⟨by rfl, ?_⟩) ?_ ?_
          rotate_left
          ·
           intro w'
           go_simp; with_reducible rfl
          rotate_left
          ·
           simp only [Act.put, List.setIfInBounds_toArray, List.set_cons_zero, List.set_cons_succ, i64_w, i32_w]
           rfl
          refine pure_ (i := 7) (N := some 98) (v := ?_) (a' := ?_) #[true, false, true, false, false, true, false, true, false, false, false, false] rfl rfl (any_of HT_.out (by kernel_rfl)) (fun _ _ _ h => h) (Or.inl ⟨by rfl, ?_⟩) ?_ ?_
          rotate_left
          ·
           intro w'
           go_simp; with_reducible rfl
          rotate_left
          ·
           simp only [Act.put, List.setIfInBounds_toArray, List.set_cons_zero, List.set_cons_succ, i64_w, i32_w]
           rfl
          refine take_ (i := 1) (N := some 92) (v := ?_) (a' := ?_) #[true, true, true, false, false, true, false, true, false, false, false, false] rfl rfl (take_ofW HT_.out HW_.out (by kernel_rfl)) (fun _ _ _ h => h) (Or.inl ⟨by rfl, ?_⟩) hHeld ?_ ?_
          rotate_left
          ·
           rintro w' ⟨s0, s1, s2, s3⟩
           go_simp; with_reducible rfl
          rotate_left
          ·
           simp only [Act.put, List.setIfInBounds_toArray, List.set_cons_zero, List.set_cons_succ, i64_w, i32_w]
           rfl
          refine take_ (i := 3) (N := some 94) (v := ?_) (a' := ?_) #[true, true, true, true, false, true, false, true, false, false, false, false] rfl rfl (take_ofW HT_.out HW_.out (by kernel_rfl)) (fun _ _ _ h => h) (Or.inl ⟨by rfl, ?_⟩) hHeld ?_ ?_
          rotate_left
          ·
           rintro w' ⟨s0, s1, s2, s3⟩
           go_simp; with_reducible rfl
          rotate_left
          ·
           simp only [Act.put, List.setIfInBounds_toArray, List.set_cons_zero, List.set_cons_succ, i64_w, i32_w]
           rfl
          refine pure_ (i := 4) (N := some 95) (v := ?_) (a' := ?_) #[true, true, true, true, true, true, false, true, false, false, false, false] rfl rfl (any_of HT_.out (by kernel_rfl)) (fun _ _ _ h => h) (Or.inl ⟨by rfl, ?_⟩) ?_ ?_
          rotate_left
          ·
           intro w'
           go_simp; with_reducible rfl
          rotate_left
          ·
           simp only [Act.put, List.setIfInBounds_toArray, List.set_cons_zero, List.set_cons_succ, i64_w, i32_w]
           rfl
          refine take_ (i := 6) (N := some 97) (v := ?_) (a' := ?_) #[true, true, true, true, true, true, true, true, false, false, false, false] rfl rfl (take_ofW HT_.out HW_.out (by kernel_rfl)) (fun _ _ _ h => h) (Or.inl ⟨by rfl, ?_⟩) hHeld ?_ ?_
          rotate_left
          ·
           rintro w' ⟨s0, s1, s2, s3⟩
           go_simp; with_reducible rfl
          rotate_left
          ·
           simp only [Act.put, List.setIfInBounds_toArray, List.set_cons_zero, List.set_cons_succ, i64_w, i32_w]
           rfl
          refine take_ (i := 8) (N := some 99) (v := ?_) (a' := ?_) #[true, true, true, true, true, true, true, true, true, false, false, false] rfl rfl (take_ofW HT_.out HW_.out (by kernel_rfl)) (fun _ _ _ h => h) (Or.inl ⟨by rfl, ?_⟩) hHeld ?_ ?_
          rotate_left
          ·
           rintro w' ⟨s0, s1, s2, s3⟩
           go_simp; with_reducible rfl
          rotate_left
          ·
           simp only [Act.put, List.setIfInBounds_toArray, List.set_cons_zero, List.set_cons_succ, i64_w, i32_w]
           rfl
          refine pure_ (i := 9) (N := some 100) (v := ?_) (a' := ?_) #[true, true, true, true, true, true, true, true, true, true, false, false] rfl rfl (any_of HT_.out (by kernel_rfl)) (fun _ _ _ h => h) (Or.inl ⟨by rfl, ?_⟩) ?_ ?_
          rotate_left
          ·
           intro w'
           go_simp; with_reducible rfl
          rotate_left
          ·
           simp only [Act.put, List.setIfInBounds_toArray, List.set_cons_zero, List.set_cons_succ, i64_w, i32_w]
           rfl
          refine pure_ (i := 10) (N := some 101) (v := ?_) (a' := ?_) #[true, true, true, true, true, true, true, true, true, true, true, false] rfl rfl (any_of HT_.out (by kernel_rfl)) (fun _ _ _ h => h) (Or.inl ⟨by rfl, ?_⟩) ?_ ?_
          rotate_left
          ·
           intro w'
           go_simp; with_reducible rfl
          rotate_left
          ·
           simp only [Act.put, List.setIfInBounds_toArray, List.set_cons_zero, List.set_cons_succ, i64_w, i32_w]
           rfl
          refine one_ (i := 11) (N := none) #[true, true, true, true, true, true, true, true, true, true, true, true] rfl rfl (one_of HT_.out (by kernel_rfl)) (by decide) (fun K hK => ?_)
          have hs106 : w105.cell? ⟨gb120, 0, none⟩ = some (.int .u64 0) := (blk_cell BK120.out 0).trans rfl
          have hfs106 := blk_frozen BK120.out 0
          have hns106_0 := NB118_120.out
          have hns106_1 := NB119_120.out
          have hns106_3 := NB121_120.out
          have hms106_0 := NB120_118.out
          have hms106_1 := NB120_119.out
          have hms106_3 := NB120_121.out
          have hs107 : w105.cell? ⟨gb120, 1, none⟩ = some (.int .u64 0) := (blk_cell BK120.out 1).trans rfl
          have hfs107 := blk_frozen BK120.out 1
          have hns107_0 := NB118_120.out
          have hns107_1 := NB119_120.out
          have hns107_3 := NB121_120.out
          have hms107_0 := NB120_118.out
          have hms107_1 := NB120_119.out
          have hms107_3 := NB120_121.out
          refine skip_ (w1 := ?_) (by rfl) rfl ?_ ?_
          rotate_left
          ·
           go_simp
           rfl
          refine hK.out _ _ ⟨((cell_far (p := ⟨gb120, _, none⟩) NB118_120.out _).trans (((cell_far (p := ⟨gb120, _, none⟩) NB118_120.out _).trans (hHeld.1)))), ((cell_far (p := ⟨gb120, _, none⟩) NB118_120.out _).trans (((cell_far (p := ⟨gb120, _, none⟩) NB118_120.out _).trans (hHeld.2.1)))), ((cell_far (p := ⟨gb120, _, none⟩) NB119_120.out _).trans (((cell_far (p := ⟨gb120, _, none⟩) NB119_120.out _).trans (hHeld.2.2.1)))), ((cell_far (p := ⟨gb120, _, none⟩) NB119_120.out _).trans (((cell_far (p := ⟨gb120, _, none⟩) NB119_120.out _).trans (hHeld.2.2.2))))⟩ (fun hHeld => ?_)
          clear hK K
          refine done_ (done_of HT_.out (by kernel_rfl)) ?_
          try go_wp2
          refine bodyPost_ret (results_cell_row rfl _ _ gb120 58 #[.int .u64 (IntKind.u64.wrap (Int.tdiv a2_0 a3_1)), .int .u64 (IntKind.u64.wrap (Int.tdiv a2_1 a3_0))] (0, 0) _ rfl (by (with_reducible repeat (first | apply bN | apply bD | apply bA)); refine blk_put (cs := #[.int .u64 (IntKind.u64.wrap (Int.tdiv a2_0 a3_1)), .int .u64 0]) ?_ 1 _ rfl; (with_reducible repeat (first | apply bN | apply bD | apply bA)); refine blk_put (cs := #[.int .u64 0, .int .u64 0]) ?_ 0 _ rfl; (with_reducible repeat (first | apply bN | apply bD | apply bA)); exact BK120.out) Try.underlying58 rfl (by kernel_rfl)) rfl ?_
          exact ⟨by first | rfl | (simp [errW_none, errW_some] <;> rfl) | (simp [*, errW_none, errW_some] <;> rfl), by repeat (first | (with_reducible first | exact HB.out | apply lA | apply lN | apply lD | refine lS ?_ ‹_›) | exact HB.out)⟩
       ·
        rw [if_neg c98] at H
        have c98b0 : decide (0 < a3_0) = false := decide_eq_false c98; clear c98; simp only [Option.some.injEq, Prod.mk.injEq] at H; obtain ⟨rfl, rfl⟩ := H; have hnb108 := NB119_118.out; have hnc108 := NB118_119.out; have hnb109 := NB119_120.out; have hnc109 := NB120_119.out; have hnb110 := NB119_121.out; have hnc110 := NB121_119.out; have hcz111_0 : wc.cell? ⟨gb119, 0, none⟩ = some (.int .u64 a3_0) := (blk_cell BK119.out 0).trans rfl; have hcz111_1 : wc.cell? ⟨gb119, 1, none⟩ = some (.int .u64 a3_1) := (blk_cell BK119.out 1).trans rfl; have hfz111_0 := blk_frozen BK119.out 0; have hfz111_1 := blk_frozen BK119.out 1; have hnb112 := NB118_120.out; have hnc112 := NB120_118.out; have hnb113 := NB118_121.out; have hnc113 := NB121_118.out; have hcz114_0 : wc.cell? ⟨gb118, 0, none⟩ = some (.int .u64 a2_0) := (blk_cell BK118.out 0).trans rfl; have hcz114_1 : wc.cell? ⟨gb118, 1, none⟩ = some (.int .u64 a2_1) := (blk_cell BK118.out 1).trans rfl; have hfz114_0 := blk_frozen BK118.out 0; have hfz114_1 := blk_frozen BK118.out 1; have hnb115 := NB120_121.out; have hnc115 := NB121_120.out; have hcz116_0 : wc.cell? ⟨gb120, 0, none⟩ = some (.int .u64 0) := (blk_cell BK120.out 0).trans rfl; have hcz116_1 : wc.cell? ⟨gb120, 1, none⟩ = some (.int .u64 0) := (blk_cell BK120.out 1).trans rfl; have hfz116_0 := blk_frozen BK120.out 0; have hfz116_1 := blk_frozen BK120.out 1
        go_wp2
        refine bodyPost_ret (results_cell_row rfl _ _ gb120 58 #[.int .u64 0, .int .u64 a2_1] (0, 0) _ rfl (by (with_reducible repeat (first | apply bN | apply bD | apply bA)); refine blk_put (cs := #[.int .u64 0, .int .u64 0]) ?_ 1 _ rfl; (with_reducible repeat (first | apply bN | apply bD | apply bA)); refine blk_put (cs := #[.int .u64 0, .int .u64 0]) ?_ 0 _ rfl; (with_reducible repeat (first | apply bN | apply bD | apply bA)); exact BK120.out) Try.underlying58 rfl (by kernel_rfl)) rfl ?_
        exact ⟨by first | rfl | (simp [errW_none, errW_some] <;> rfl) | (simp [*, errW_none, errW_some] <;> rfl), by repeat (first | (with_reducible first | exact HB.out | apply lA | apply lN | apply lD | refine lS ?_ ‹_›) | exact HB.out)⟩
      ·
       rw [if_neg c97] at H
       have c97b0 : (a0 == 48) = false := beq_eq_false_iff_ne.mpr c97; have c97b1 : (a0 != 48) = true := bne_iff_ne.mpr c97
       by_cases c117 : a0 = 64
       ·
        rw [if_pos c117] at H
        have c117b0 : (a0 == 64) = true := beq_iff_eq.mpr c117; have c117b1 : (a0 != 64) = false := bne_eq_false_iff_eq.mpr c117; clear c117
        obtain ⟨ji118, hji118⟩ : ∃ j_ : Int, (mx a2_0 a3_0) = j_ := ⟨_, rfl⟩
        replace H : ((span_below.f (Go.bits .or .u64 a2_1 a3_1)).bind fun t124 => (some (ji118, t124))) = some (r1, r2) := by first | (rw [hji118] at H; exact H) | (simp only [hji118] at H ⊢; exact H)
        have hji118_ : (if a2_0 < a3_0 then a3_0 else a2_0) = ji118 := hji118
        replace H := Option.bind_eq_some_iff.mp H; obtain ⟨t124, A1190, H⟩ := H
        replace H : (some (ji118, t124)) = some (r1, r2) := H
        have A119 := Aside0.mk A1190; clear A1190; simp only [Option.some.injEq, Prod.mk.injEq] at H; obtain ⟨rfl, rfl⟩ := H
        try go_wp2
        have n0_ := Aside0.mk (blk_drew BK118.out); have n1_ := Aside0.mk (blk_drew BK119.out); have n2_ := Aside0.mk (blk_drew BK120.out); have n3_ := Aside0.mk (blk_drew BK121.out)
        have n4_ := Aside0.mk (below_drew1 HB.out)
        clear BK118; clear BK119; clear BK120; clear BK121; clear HB; have BK118 := n0_; have BK119 := n1_; have BK120 := n2_; have BK121 := n3_; have HB := n4_; clear n0_ n1_ n2_ n3_ n4_
        refine start_ (n := 13) (S := fun w' => w'.cell? ⟨gb118, 0, none⟩ = some (.int .u64 a2_0) ∧ w'.cell? ⟨gb118, 1, none⟩ = some (.int .u64 a2_1) ∧ w'.cell? ⟨gb119, 0, none⟩ = some (.int .u64 a3_0) ∧ w'.cell? ⟨gb119, 1, none⟩ = some (.int .u64 a3_1)) (ds := []) #[false, false, false, false, false, false, false, false, false, false, false, false, false] (by kernel_rfl) rfl rfl ⟨(blk_cell BK118.out 0).trans rfl, (blk_cell BK118.out 1).trans rfl, (blk_cell BK119.out 0).trans rfl, (blk_cell BK119.out 1).trans rfl⟩ (fun hHeld => ?_); refine with_tabW span_do.tab21 span_do.bits21 (fun HT_ HW_ => ?_)
        generalize wc.drew = w120 at BK118 BK119 BK120 BK121 HB hHeld ⊢
        refine pure_ (i := 0) (N := some 107) (v := ?_) (a' := ?_) #[true, false, false, false, false, false, false, false, false, false, false, false, false] rfl rfl (any_of HT_.out (by kernel_rfl)) (fun _ _ _ h => h) (Or.inl ⟨by rfl, ?_⟩) ?_ ?_
        rotate_left
        ·
         intro w'
         go_simp; with_reducible rfl
        rotate_left
        ·
         simp only [Act.put, List.setIfInBounds_toArray, List.set_cons_zero, List.set_cons_succ, i64_w, i32_w]
         rfl
        refine pure_ (i := 2) (N := some 109) (v := ?_) (a' := ?_) #[true, false, true, false, false, false, false, false, false, false, false, false, false] rfl rfl (any_of HT_.out (by kernel_rfl)) (fun _ _ _ h => h) (Or.inl ⟨by rfl, ?_⟩) ?_ ?_
        rotate_left
        ·
         intro w'
         go_simp; with_reducible rfl
        rotate_left
        ·
         simp only [Act.put, List.setIfInBounds_toArray, List.set_cons_zero, List.set_cons_succ, i64_w, i32_w]
         rfl
        refine pure_ (i := 5) (N := some 112) (v := ?_) (a' := ?_) #[true, false, true, false, false, true, false, false, false, false, false, false, false] rfl rfl (any_of HT_.out (by kernel_rfl)) (fun _ _ _ h => h) (Or.inl ⟨by rfl, ?_⟩) ?_ ?_
        rotate_left
        ·
         intro w'
         go_simp; with_reducible rfl
        rotate_left
        ·
         simp only [Act.put, List.setIfInBounds_toArray, List.set_cons_zero, List.set_cons_succ, i64_w, i32_w]
         rfl
        refine pure_ (i := 7) (N := some 114) (v := ?_) (a' := ?_) #[true, false, true, false, false, true, false, true, false, false, false, false, false] rfl rfl (any_of HT_.out (by kernel_rfl)) (fun _ _ _ h => h) (Or.inl ⟨by rfl, ?_⟩) ?_ ?_
        rotate_left
        ·
         intro w'
         go_simp; with_reducible rfl
        rotate_left
        ·
         simp only [Act.put, List.setIfInBounds_toArray, List.set_cons_zero, List.set_cons_succ, i64_w, i32_w]
         rfl
        refine take_ (i := 1) (N := some 108) (v := ?_) (a' := ?_) #[true, true, true, false, false, true, false, true, false, false, false, false, false] rfl rfl (take_ofW HT_.out HW_.out (by kernel_rfl)) (fun _ _ _ h => h) (Or.inl ⟨by rfl, ?_⟩) hHeld ?_ ?_
        rotate_left
        ·
         rintro w' ⟨s0, s1, s2, s3⟩
         go_simp; with_reducible rfl
        rotate_left
        ·
         simp only [Act.put, List.setIfInBounds_toArray, List.set_cons_zero, List.set_cons_succ, i64_w, i32_w]
         rfl
        refine take_ (i := 3) (N := some 110) (v := ?_) (a' := ?_) #[true, true, true, true, false, true, false, true, false, false, false, false, false] rfl rfl (take_ofW HT_.out HW_.out (by kernel_rfl)) (fun _ _ _ h => h) (Or.inl ⟨by rfl, ?_⟩) hHeld ?_ ?_
        rotate_left
        ·
         rintro w' ⟨s0, s1, s2, s3⟩
         go_simp; with_reducible rfl
        rotate_left
        ·
         simp only [Act.put, List.setIfInBounds_toArray, List.set_cons_zero, List.set_cons_succ, i64_w, i32_w]
         rfl
        refine pure_ (i := 4) (N := some 111) (v := ?_) (a' := ?_) #[true, true, true, true, true, true, false, true, false, false, false, false, false] rfl rfl (any_of HT_.out (by kernel_rfl)) (fun _ _ _ h => h) (Or.inl ⟨by rfl, ?_⟩) ?_ ?_
        rotate_left
        ·
         intro w'
         go_simp; with_reducible rfl
        rotate_left
        ·
         simp only [Act.put, List.setIfInBounds_toArray, List.set_cons_zero, List.set_cons_succ, i64_w, i32_w]
         rfl
        refine take_ (i := 6) (N := some 113) (v := ?_) (a' := ?_) #[true, true, true, true, true, true, true, true, false, false, false, false, false] rfl rfl (take_ofW HT_.out HW_.out (by kernel_rfl)) (fun _ _ _ h => h) (Or.inl ⟨by rfl, ?_⟩) hHeld ?_ ?_
        rotate_left
        ·
         rintro w' ⟨s0, s1, s2, s3⟩
         go_simp; with_reducible rfl
        rotate_left
        ·
         simp only [Act.put, List.setIfInBounds_toArray, List.set_cons_zero, List.set_cons_succ, i64_w, i32_w]
         rfl
        refine take_ (i := 8) (N := some 115) (v := ?_) (a' := ?_) #[true, true, true, true, true, true, true, true, true, false, false, false, false] rfl rfl (take_ofW HT_.out HW_.out (by kernel_rfl)) (fun _ _ _ h => h) (Or.inl ⟨by rfl, ?_⟩) hHeld ?_ ?_
        rotate_left
        ·
         rintro w' ⟨s0, s1, s2, s3⟩
         go_simp; with_reducible rfl
        rotate_left
        ·
         simp only [Act.put, List.setIfInBounds_toArray, List.set_cons_zero, List.set_cons_succ, i64_w, i32_w]
         rfl
        refine pure_ (i := 9) (N := some 116) (v := ?_) (a' := ?_) #[true, true, true, true, true, true, true, true, true, true, false, false, false] rfl rfl (any_of HT_.out (by kernel_rfl)) (fun _ _ _ h => h) (Or.inl ⟨by rfl, ?_⟩) ?_ ?_
        rotate_left
        ·
         intro w'
         go_simp; with_reducible rfl
        rotate_left
        ·
         simp only [Act.put, List.setIfInBounds_toArray, List.set_cons_zero, List.set_cons_succ, i64_w, i32_w]
         rfl
        refine one_ (i := 10) (N := some 117) #[true, true, true, true, true, true, true, true, true, true, true, false, false] rfl rfl (one_of HT_.out (by kernel_rfl)) (by decide) (fun K hK => ?_)
        refine goes_ Try.func60 (by kernel_rfl) rfl #[.int .u64 (Go.bits .or .u64 a2_1 a3_1)] (by rfl) rfl rfl (by (try simp only [List.map_toArray, List.map_cons, List.map_nil]); first | done | rfl | (simp only [List.length_drop, List.length_take]; rfl)) ?_
        with_reducible refine (span_below.calls (Go.bits .or .u64 a2_1 a3_1) t124 _ A119.out).mono ?_
        rintro e w' ⟨rfl, ⟨nd, rfl⟩⟩
        refine ⟨_, rfl, ?_⟩
        refine hK.out _ _ ⟨(blk_cell BK118.out 0).trans rfl, (blk_cell BK118.out 1).trans rfl, (blk_cell BK119.out 0).trans rfl, (blk_cell BK119.out 1).trans rfl⟩ (fun hHeld => ?_)
        clear hK K
        refine norm_ (a' := ?_) ?_ ?_
        rotate_left
        ·
         show Act.put _ (some 117) _ = _
         simp only [Act.put, List.setIfInBounds_toArray, List.set_cons_zero, List.set_cons_succ, i64_w, i32_w]
         rfl
        refine pure_ (i := 11) (N := some 118) (v := ?_) (a' := ?_) #[true, true, true, true, true, true, true, true, true, true, true, true, false] rfl rfl (any_of HT_.out (by kernel_rfl)) (fun _ _ _ h => h) (Or.inl ⟨by rfl, ?_⟩) ?_ ?_
        rotate_left
        ·
         intro w'
         go_simp; with_reducible rfl
        rotate_left
        ·
         simp only [Act.put, List.setIfInBounds_toArray, List.set_cons_zero, List.set_cons_succ, i64_w, i32_w]
         rfl
        refine one_ (i := 12) (N := none) #[true, true, true, true, true, true, true, true, true, true, true, true, true] rfl rfl (one_of HT_.out (by kernel_rfl)) (by decide) (fun K hK => ?_)
        have hs121 : w120.cell? ⟨gb120, 0, none⟩ = some (.int .u64 0) := (blk_cell BK120.out 0).trans rfl
        have hfs121 := blk_frozen BK120.out 0
        have hns121_0 := NB118_120.out
        have hns121_1 := NB119_120.out
        have hns121_3 := NB121_120.out
        have hms121_0 := NB120_118.out
        have hms121_1 := NB120_119.out
        have hms121_3 := NB120_121.out
        have hs122 : w120.cell? ⟨gb120, 1, none⟩ = some (.int .u64 0) := (blk_cell BK120.out 1).trans rfl
        have hfs122 := blk_frozen BK120.out 1
        have hns122_0 := NB118_120.out
        have hns122_1 := NB119_120.out
        have hns122_3 := NB121_120.out
        have hms122_0 := NB120_118.out
        have hms122_1 := NB120_119.out
        have hms122_3 := NB120_121.out
        refine skip_ (w1 := ?_) (by rfl) rfl ?_ ?_
        rotate_left
        ·
         go_simp
         rfl
        refine hK.out _ _ ⟨((cell_far (p := ⟨gb120, _, none⟩) NB118_120.out _).trans (((cell_far (p := ⟨gb120, _, none⟩) NB118_120.out _).trans (hHeld.1)))), ((cell_far (p := ⟨gb120, _, none⟩) NB118_120.out _).trans (((cell_far (p := ⟨gb120, _, none⟩) NB118_120.out _).trans (hHeld.2.1)))), ((cell_far (p := ⟨gb120, _, none⟩) NB119_120.out _).trans (((cell_far (p := ⟨gb120, _, none⟩) NB119_120.out _).trans (hHeld.2.2.1)))), ((cell_far (p := ⟨gb120, _, none⟩) NB119_120.out _).trans (((cell_far (p := ⟨gb120, _, none⟩) NB119_120.out _).trans (hHeld.2.2.2))))⟩ (fun hHeld => ?_)
        clear hK K
        refine done_ (done_of HT_.out (by kernel_rfl)) ?_
        try go_wp2
        refine bodyPost_ret (results_cell_row rfl _ _ gb120 58 #[.int .u64 ji118, .int .u64 t124] (0, 0) _ rfl (by (with_reducible repeat (first | apply bN | apply bD | apply bA)); refine blk_put (cs := #[.int .u64 ji118, .int .u64 0]) ?_ 1 _ rfl; (with_reducible repeat (first | apply bN | apply bD | apply bA)); refine blk_put (cs := #[.int .u64 0, .int .u64 0]) ?_ 0 _ rfl; (with_reducible repeat (first | apply bN | apply bD | apply bA)); exact BK120.out) Try.underlying58 rfl (by kernel_rfl)) rfl ?_
        exact ⟨by first | rfl | (simp [errW_none, errW_some] <;> rfl) | (simp only [← hji118]; first | rfl | (simp [errW_none, errW_some] <;> rfl)) | (simp [*, errW_none, errW_some] <;> rfl), by repeat (first | (with_reducible first | exact HB.out | apply lA | apply lN | apply lD | refine lS ?_ ‹_›) | exact HB.out)⟩
       ·
        rw [if_neg c117] at H
        have c117b0 : (a0 == 64) = false := beq_eq_false_iff_ne.mpr c117; have c117b1 : (a0 != 64) = true := bne_iff_ne.mpr c117
        by_cases c123 : a0 = 80
        ·
         rw [if_pos c123] at H
         have c123b0 : (a0 == 80) = true := beq_iff_eq.mpr c123; have c123b1 : (a0 != 80) = false := bne_eq_false_iff_eq.mpr c123; clear c123
         obtain ⟨ji124, hji124⟩ : ∃ j_ : Int, (mn a2_1 a3_1) = j_ := ⟨_, rfl⟩
         replace H : (some (0, ji124)) = some (r1, r2) := by first | (rw [hji124] at H; exact H) | (simp only [hji124] at H ⊢; exact H)
         have hji124_ : (if a3_1 < a2_1 then a3_1 else a2_1) = ji124 := hji124
         simp only [Option.some.injEq, Prod.mk.injEq] at H; obtain ⟨rfl, rfl⟩ := H; have hnb125 := NB118_119.out; have hnc125 := NB119_118.out; have hnb126 := NB118_120.out; have hnc126 := NB120_118.out; have hnb127 := NB118_121.out; have hnc127 := NB121_118.out; have hcz128_0 : wc.cell? ⟨gb118, 0, none⟩ = some (.int .u64 a2_0) := (blk_cell BK118.out 0).trans rfl; have hcz128_1 : wc.cell? ⟨gb118, 1, none⟩ = some (.int .u64 a2_1) := (blk_cell BK118.out 1).trans rfl; have hfz128_0 := blk_frozen BK118.out 0; have hfz128_1 := blk_frozen BK118.out 1; have hnb129 := NB119_120.out; have hnc129 := NB120_119.out; have hnb130 := NB119_121.out; have hnc130 := NB121_119.out; have hcz131_0 : wc.cell? ⟨gb119, 0, none⟩ = some (.int .u64 a3_0) := (blk_cell BK119.out 0).trans rfl; have hcz131_1 : wc.cell? ⟨gb119, 1, none⟩ = some (.int .u64 a3_1) := (blk_cell BK119.out 1).trans rfl; have hfz131_0 := blk_frozen BK119.out 0; have hfz131_1 := blk_frozen BK119.out 1; have hnb132 := NB120_121.out; have hnc132 := NB121_120.out; have hcz133_0 : wc.cell? ⟨gb120, 0, none⟩ = some (.int .u64 0) := (blk_cell BK120.out 0).trans rfl; have hcz133_1 : wc.cell? ⟨gb120, 1, none⟩ = some (.int .u64 0) := (blk_cell BK120.out 1).trans rfl; have hfz133_0 := blk_frozen BK120.out 0; have hfz133_1 := blk_frozen BK120.out 1
         go_wp2
         refine bodyPost_ret (results_cell_row rfl _ _ gb120 58 #[.int .u64 0, .int .u64 ji124] (0, 0) _ rfl (by (with_reducible repeat (first | apply bN | apply bD | apply bA)); refine blk_put (cs := #[.int .u64 0, .int .u64 0]) ?_ 1 _ rfl; (with_reducible repeat (first | apply bN | apply bD | apply bA)); refine blk_put (cs := #[.int .u64 0, .int .u64 0]) ?_ 0 _ rfl; (with_reducible repeat (first | apply bN | apply bD | apply bA)); exact BK120.out) Try.underlying58 rfl (by kernel_rfl)) rfl ?_
         exact ⟨by first | rfl | (simp [errW_none, errW_some] <;> rfl) | (simp only [← hji124]; first | rfl | (simp [errW_none, errW_some] <;> rfl)) | (simp [*, errW_none, errW_some] <;> rfl), by repeat (first | (with_reducible first | exact HB.out | apply lA | apply lN | apply lD | refine lS ?_ ‹_›) | exact HB.out)⟩
        ·
         rw [if_neg c123] at H
         have c123b0 : (a0 == 80) = false := beq_eq_false_iff_ne.mpr c123; have c123b1 : (a0 != 80) = true := bne_iff_ne.mpr c123
         by_cases c134 : a0 = 96
         ·
          rw [if_pos c134] at H
          have c134b0 : (a0 == 96) = true := beq_iff_eq.mpr c134; have c134b1 : (a0 != 96) = false := bne_eq_false_iff_eq.mpr c134; clear c134; replace H := Option.bind_eq_some_iff.mp H; obtain ⟨t125, A1350, H⟩ := H
          replace H : (if t125 = true then (if 0 ≤ x10_4 then (if a2_1 ≤ (shr .u64 a1 x10_4) then (some (shl .u64 a2_0 x10_4, shl .u64 a2_1 x10_4)) else (some (0, a1))) else (none)) else (some (0, a1))) = some (r1, r2) := H
          have A135 := Aside0.mk A1350; clear A1350
          by_cases c136 : t125 = true
          ·
           subst c136
           have H1 : (if 0 ≤ x10_4 then (if a2_1 ≤ (shr .u64 a1 x10_4) then (some (shl .u64 a2_0 x10_4, shl .u64 a2_1 x10_4)) else (some (0, a1))) else (none)) = some (r1, r2) := by rw [if_pos rfl] at H; exact H
           clear H; have H := H1; clear H1
           by_cases c137 : 0 ≤ x10_4
           ·
            rw [if_pos c137] at H
            have c137b0 := eq_true c137
            have c137b1 : decide (0 ≤ x10_4) = true := decide_eq_true c137; clear c137
            obtain ⟨ji138, hji138⟩ : ∃ j_ : Int, (shr .u64 a1 x10_4) = j_ := ⟨_, rfl⟩
            replace H : (if a2_1 ≤ (ji138) then (some (shl .u64 a2_0 x10_4, shl .u64 a2_1 x10_4)) else (some (0, a1))) = some (r1, r2) := by first | (rw [hji138] at H; exact H) | (simp only [hji138] at H ⊢; exact H)
            (try rw [hji138] at A135)
            have hji138_ : (a1 / 2 ^ min x10_4.toNat 64) = ji138 := hji138
            have hji138z : x10_4 ≤ 64 → (a1 / 2 ^ x10_4.toNat) = ji138 := shr_small hji138
            by_cases c139 : a2_1 ≤ (ji138)
            ·
             rw [if_pos c139] at H
             have c139b0 : decide (a2_1 ≤ (ji138)) = true := decide_eq_true c139; clear c139
             have c140b0 := eq_true (of_decide_eq_true (by first | (with_reducible assumption) | assumption) : 0 ≤ x10_4)
             obtain ⟨ji141, hji141⟩ : ∃ j_ : Int, (shl .u64 a2_0 x10_4) = j_ := ⟨_, rfl⟩
             replace H : (some (ji141, shl .u64 a2_1 x10_4)) = some (r1, r2) := by first | (rw [hji141] at H; exact H) | (simp only [hji141] at H ⊢; exact H)
             (try rw [hji141] at A135)
             have hji141_ : (IntKind.u64.wrap (a2_0 * 2 ^ min x10_4.toNat 64)) = ji141 := hji141
             have hji141z : x10_4 ≤ 64 → (IntKind.u64.wrap (a2_0 * 2 ^ x10_4.toNat)) = ji141 := shl_small hji141
             have c142b0 := eq_true (of_decide_eq_true (by first | (with_reducible assumption) | assumption) : 0 ≤ x10_4)
             obtain ⟨ji143, hji143⟩ : ∃ j_ : Int, (shl .u64 a2_1 x10_4) = j_ := ⟨_, rfl⟩
             replace H : (some (ji141, ji143)) = some (r1, r2) := by first | (rw [hji143] at H; exact H) | (simp only [hji143] at H ⊢; exact H)
             (try rw [hji143] at A135)
             have hji143_ : (IntKind.u64.wrap (a2_1 * 2 ^ min x10_4.toNat 64)) = ji143 := hji143
             have hji143z : x10_4 ≤ 64 → (IntKind.u64.wrap (a2_1 * 2 ^ x10_4.toNat)) = ji143 := shl_small hji143
             simp only [Option.some.injEq, Prod.mk.injEq] at H; obtain ⟨rfl, rfl⟩ := H; have hnb144 := NB119_118.out; have hnc144 := NB118_119.out; have hnb145 := NB119_120.out; have hnc145 := NB120_119.out; have hnb146 := NB119_121.out; have hnc146 := NB121_119.out; have hcz147_0 : wc.cell? ⟨gb119, 0, none⟩ = some (.int .u64 a3_0) := (blk_cell BK119.out 0).trans rfl; have hcz147_1 : wc.cell? ⟨gb119, 1, none⟩ = some (.int .u64 a3_1) := (blk_cell BK119.out 1).trans rfl; have hfz147_0 := blk_frozen BK119.out 0; have hfz147_1 := blk_frozen BK119.out 1
             go_wp2_with (first | ((with_reducible refine gate_callee (f := 50) rfl ?_); refine goesL_ (some 130) rfl rfl Try.func50 (by kernel_rfl) rfl #[.agg #[.int .u64 a3_0, .int .u64 a3_1]] rfl (by (try simp only [List.map_toArray, List.map_cons, List.map_nil]); first | done | rfl | (simp only [List.length_drop, List.length_take]; rfl)) ?_; (with_reducible refine (span_one.calls a3_0 a3_1 true _ A135.out).mono ?_); rintro e w148 ⟨rfl, hb⟩; refine ⟨_, rfl, ?_⟩; have n0_ := Aside0.mk (blk_below (g := gb118) (o := .cells #[.int .u64 a2_0, .int .u64 a2_1] 58 (0, 0)) (by (with_reducible repeat (first | apply bN | apply bD | apply bA)); exact BK118.out) hb); have n1_ := Aside0.mk (blk_below (g := gb119) (o := .cells #[.int .u64 a3_0, .int .u64 a3_1] 58 (0, 0)) (by (with_reducible repeat (first | apply bN | apply bD | apply bA)); exact BK119.out) hb); have n2_ := Aside0.mk (blk_below (g := gb120) (o := .cells #[.int .u64 0, .int .u64 0] 58 (0, 0)) (by (with_reducible repeat (first | apply bN | apply bD | apply bA)); exact BK120.out) hb); have n3_ := Aside0.mk (blk_below (g := gb121) (o := .cells #[.int .u64 0, .int .u64 a1] 58 (0, 0)) (by (with_reducible repeat (first | apply bN | apply bD | apply bA)); exact BK121.out) hb); have n4_ := Aside0.mk (below_step (by repeat (first | (with_reducible first | exact HB.out | apply lA | apply lN | apply lD | refine lS ?_ ‹_›) | exact HB.out)) hb); clear BK118; clear BK119; clear BK120; clear BK121; clear HB; have BK118 := n0_; have BK119 := n1_; have BK120 := n2_; have BK121 := n3_; have HB := n4_; clear n0_ n1_ n2_ n3_ n4_; (try clear hb); (try clear hb2); (try clear hk); (try clear hi); have hnb149 := NB118_120.out; have hnc149 := NB120_118.out; have hnb150 := NB118_121.out; have hnc150 := NB121_118.out; have hcz151_0 : w148.cell? ⟨gb118, 0, none⟩ = some (.int .u64 a2_0) := (blk_cell BK118.out 0).trans rfl; have hcz151_1 : w148.cell? ⟨gb118, 1, none⟩ = some (.int .u64 a2_1) := (blk_cell BK118.out 1).trans rfl; have hfz151_0 := blk_frozen BK118.out 0; have hfz151_1 := blk_frozen BK118.out 1; have hnb152 := NB120_121.out; have hnc152 := NB121_120.out; have hcz153_0 : w148.cell? ⟨gb120, 0, none⟩ = some (.int .u64 0) := (blk_cell BK120.out 0).trans rfl; have hcz153_1 : w148.cell? ⟨gb120, 1, none⟩ = some (.int .u64 0) := (blk_cell BK120.out 1).trans rfl; have hfz153_0 := blk_frozen BK120.out 0; have hfz153_1 := blk_frozen BK120.out 1))
             refine bodyPost_ret (results_cell_row rfl _ _ gb120 58 #[.int .u64 ji141, .int .u64 ji143] (0, 0) _ rfl (by (with_reducible repeat (first | apply bN | apply bD | apply bA)); refine blk_put (cs := #[.int .u64 ji141, .int .u64 0]) ?_ 1 _ rfl; (with_reducible repeat (first | apply bN | apply bD | apply bA)); refine blk_put (cs := #[.int .u64 0, .int .u64 0]) ?_ 0 _ rfl; (with_reducible repeat (first | apply bN | apply bD | apply bA)); exact BK120.out) Try.underlying58 rfl (by kernel_rfl)) rfl ?_
             exact ⟨by first | rfl | (simp [errW_none, errW_some] <;> rfl) | (simp only [← hji138, ← hji141, ← hji143]; first | rfl | (simp [errW_none, errW_some] <;> rfl)) | (simp [*, errW_none, errW_some] <;> rfl), by repeat (first | (with_reducible first | exact HB.out | apply lA | apply lN | apply lD | refine lS ?_ ‹_›) | exact HB.out)⟩
            ·
             rw [if_neg c139] at H
             have c139b0 : decide (a2_1 ≤ (ji138)) = false := decide_eq_false c139; clear c139; simp only [Option.some.injEq, Prod.mk.injEq] at H; obtain ⟨rfl, rfl⟩ := H; have hnb154 := NB119_118.out; have hnc154 := NB118_119.out; have hnb155 := NB119_120.out; have hnc155 := NB120_119.out; have hnb156 := NB119_121.out; have hnc156 := NB121_119.out; have hcz157_0 : wc.cell? ⟨gb119, 0, none⟩ = some (.int .u64 a3_0) := (blk_cell BK119.out 0).trans rfl; have hcz157_1 : wc.cell? ⟨gb119, 1, none⟩ = some (.int .u64 a3_1) := (blk_cell BK119.out 1).trans rfl; have hfz157_0 := blk_frozen BK119.out 0; have hfz157_1 := blk_frozen BK119.out 1
             go_wp2_with (first | ((with_reducible refine gate_callee (f := 50) rfl ?_); refine goesL_ (some 130) rfl rfl Try.func50 (by kernel_rfl) rfl #[.agg #[.int .u64 a3_0, .int .u64 a3_1]] rfl (by (try simp only [List.map_toArray, List.map_cons, List.map_nil]); first | done | rfl | (simp only [List.length_drop, List.length_take]; rfl)) ?_; (with_reducible refine (span_one.calls a3_0 a3_1 true _ A135.out).mono ?_); rintro e w158 ⟨rfl, hb⟩; refine ⟨_, rfl, ?_⟩; have n0_ := Aside0.mk (blk_below (g := gb118) (o := .cells #[.int .u64 a2_0, .int .u64 a2_1] 58 (0, 0)) (by (with_reducible repeat (first | apply bN | apply bD | apply bA)); exact BK118.out) hb); have n1_ := Aside0.mk (blk_below (g := gb119) (o := .cells #[.int .u64 a3_0, .int .u64 a3_1] 58 (0, 0)) (by (with_reducible repeat (first | apply bN | apply bD | apply bA)); exact BK119.out) hb); have n2_ := Aside0.mk (blk_below (g := gb120) (o := .cells #[.int .u64 0, .int .u64 0] 58 (0, 0)) (by (with_reducible repeat (first | apply bN | apply bD | apply bA)); exact BK120.out) hb); have n3_ := Aside0.mk (blk_below (g := gb121) (o := .cells #[.int .u64 0, .int .u64 a1] 58 (0, 0)) (by (with_reducible repeat (first | apply bN | apply bD | apply bA)); exact BK121.out) hb); have n4_ := Aside0.mk (below_step (by repeat (first | (with_reducible first | exact HB.out | apply lA | apply lN | apply lD | refine lS ?_ ‹_›) | exact HB.out)) hb); clear BK118; clear BK119; clear BK120; clear BK121; clear HB; have BK118 := n0_; have BK119 := n1_; have BK120 := n2_; have BK121 := n3_; have HB := n4_; clear n0_ n1_ n2_ n3_ n4_; (try clear hb); (try clear hb2); (try clear hk); (try clear hi); have hnb159 := NB118_120.out; have hnc159 := NB120_118.out; have hnb160 := NB118_121.out; have hnc160 := NB121_118.out; have hcz161_0 : w158.cell? ⟨gb118, 0, none⟩ = some (.int .u64 a2_0) := (blk_cell BK118.out 0).trans rfl; have hcz161_1 : w158.cell? ⟨gb118, 1, none⟩ = some (.int .u64 a2_1) := (blk_cell BK118.out 1).trans rfl; have hfz161_0 := blk_frozen BK118.out 0; have hfz161_1 := blk_frozen BK118.out 1; have hnb162 := NB121_120.out; have hnc162 := NB120_121.out; have hcz163_0 : w158.cell? ⟨gb121, 0, none⟩ = some (.int .u64 0) := (blk_cell BK121.out 0).trans rfl; have hcz163_1 : w158.cell? ⟨gb121, 1, none⟩ = some (.int .u64 a1) := (blk_cell BK121.out 1).trans rfl; have hfz163_0 := blk_frozen BK121.out 0; have hfz163_1 := blk_frozen BK121.out 1; have hcz164_0 : w158.cell? ⟨gb120, 0, none⟩ = some (.int .u64 0) := (blk_cell BK120.out 0).trans rfl; have hcz164_1 : w158.cell? ⟨gb120, 1, none⟩ = some (.int .u64 0) := (blk_cell BK120.out 1).trans rfl; have hfz164_0 := blk_frozen BK120.out 0; have hfz164_1 := blk_frozen BK120.out 1))
             refine bodyPost_ret (results_cell_row rfl _ _ gb120 58 #[.int .u64 0, .int .u64 a1] (0, 0) _ rfl (by (with_reducible repeat (first | apply bN | apply bD | apply bA)); refine blk_put (cs := #[.int .u64 0, .int .u64 0]) ?_ 1 _ rfl; (with_reducible repeat (first | apply bN | apply bD | apply bA)); refine blk_put (cs := #[.int .u64 0, .int .u64 0]) ?_ 0 _ rfl; (with_reducible repeat (first | apply bN | apply bD | apply bA)); exact BK120.out) Try.underlying58 rfl (by kernel_rfl)) rfl ?_
             exact ⟨by first | rfl | (simp [errW_none, errW_some] <;> rfl) | (simp only [← hji138]; first | rfl | (simp [errW_none, errW_some] <;> rfl)) | (simp [*, errW_none, errW_some] <;> rfl), by repeat (first | (with_reducible first | exact HB.out | apply lA | apply lN | apply lD | refine lS ?_ ‹_›) | exact HB.out)⟩
           ·
            rw [if_neg c137] at H
            exact absurd H (by simp)
          ·
           replace c136 := Bool.eq_false_iff.mpr c136
           subst c136
           have H1 : (some (0, a1)) = some (r1, r2) := by rw [if_neg (show ¬ (false = true) by decide)] at H; exact H
           clear H; have H := H1; clear H1; simp only [Option.some.injEq, Prod.mk.injEq] at H; obtain ⟨rfl, rfl⟩ := H; have hnb165 := NB119_118.out; have hnc165 := NB118_119.out; have hnb166 := NB119_120.out; have hnc166 := NB120_119.out; have hnb167 := NB119_121.out; have hnc167 := NB121_119.out; have hcz168_0 : wc.cell? ⟨gb119, 0, none⟩ = some (.int .u64 a3_0) := (blk_cell BK119.out 0).trans rfl; have hcz168_1 : wc.cell? ⟨gb119, 1, none⟩ = some (.int .u64 a3_1) := (blk_cell BK119.out 1).trans rfl; have hfz168_0 := blk_frozen BK119.out 0; have hfz168_1 := blk_frozen BK119.out 1
           go_wp2_with (first | ((with_reducible refine gate_callee (f := 50) rfl ?_); refine goesL_ (some 130) rfl rfl Try.func50 (by kernel_rfl) rfl #[.agg #[.int .u64 a3_0, .int .u64 a3_1]] rfl (by (try simp only [List.map_toArray, List.map_cons, List.map_nil]); first | done | rfl | (simp only [List.length_drop, List.length_take]; rfl)) ?_; (with_reducible refine (span_one.calls a3_0 a3_1 false _ A135.out).mono ?_); rintro e w169 ⟨rfl, hb⟩; refine ⟨_, rfl, ?_⟩; have n0_ := Aside0.mk (blk_below (g := gb118) (o := .cells #[.int .u64 a2_0, .int .u64 a2_1] 58 (0, 0)) (by (with_reducible repeat (first | apply bN | apply bD | apply bA)); exact BK118.out) hb); have n1_ := Aside0.mk (blk_below (g := gb119) (o := .cells #[.int .u64 a3_0, .int .u64 a3_1] 58 (0, 0)) (by (with_reducible repeat (first | apply bN | apply bD | apply bA)); exact BK119.out) hb); have n2_ := Aside0.mk (blk_below (g := gb120) (o := .cells #[.int .u64 0, .int .u64 0] 58 (0, 0)) (by (with_reducible repeat (first | apply bN | apply bD | apply bA)); exact BK120.out) hb); have n3_ := Aside0.mk (blk_below (g := gb121) (o := .cells #[.int .u64 0, .int .u64 a1] 58 (0, 0)) (by (with_reducible repeat (first | apply bN | apply bD | apply bA)); exact BK121.out) hb); have n4_ := Aside0.mk (below_step (by repeat (first | (with_reducible first | exact HB.out | apply lA | apply lN | apply lD | refine lS ?_ ‹_›) | exact HB.out)) hb); clear BK118; clear BK119; clear BK120; clear BK121; clear HB; have BK118 := n0_; have BK119 := n1_; have BK120 := n2_; have BK121 := n3_; have HB := n4_; clear n0_ n1_ n2_ n3_ n4_; (try clear hb); (try clear hb2); (try clear hk); (try clear hi); have hnb170 := NB121_118.out; have hnc170 := NB118_121.out; have hnb171 := NB121_120.out; have hnc171 := NB120_121.out; have hcz172_0 : w169.cell? ⟨gb121, 0, none⟩ = some (.int .u64 0) := (blk_cell BK121.out 0).trans rfl; have hcz172_1 : w169.cell? ⟨gb121, 1, none⟩ = some (.int .u64 a1) := (blk_cell BK121.out 1).trans rfl; have hfz172_0 := blk_frozen BK121.out 0; have hfz172_1 := blk_frozen BK121.out 1; have hnb173 := NB120_118.out; have hnc173 := NB118_120.out; have hcz174_0 : w169.cell? ⟨gb120, 0, none⟩ = some (.int .u64 0) := (blk_cell BK120.out 0).trans rfl; have hcz174_1 : w169.cell? ⟨gb120, 1, none⟩ = some (.int .u64 0) := (blk_cell BK120.out 1).trans rfl; have hfz174_0 := blk_frozen BK120.out 0; have hfz174_1 := blk_frozen BK120.out 1))
           refine bodyPost_ret (results_cell_row rfl _ _ gb120 58 #[.int .u64 0, .int .u64 a1] (0, 0) _ rfl (by (with_reducible repeat (first | apply bN | apply bD | apply bA)); refine blk_put (cs := #[.int .u64 0, .int .u64 0]) ?_ 1 _ rfl; (with_reducible repeat (first | apply bN | apply bD | apply bA)); refine blk_put (cs := #[.int .u64 0, .int .u64 0]) ?_ 0 _ rfl; (with_reducible repeat (first | apply bN | apply bD | apply bA)); exact BK120.out) Try.underlying58 rfl (by kernel_rfl)) rfl ?_
           exact ⟨by first | rfl | (simp [errW_none, errW_some] <;> rfl) | (simp [*, errW_none, errW_some] <;> rfl), by repeat (first | (with_reducible first | exact HB.out | apply lA | apply lN | apply lD | refine lS ?_ ‹_›) | exact HB.out)⟩
         ·
          rw [if_neg c134] at H
          have c134b0 : (a0 == 96) = false := beq_eq_false_iff_ne.mpr c134; have c134b1 : (a0 != 96) = true := bne_iff_ne.mpr c134
          by_cases c175 : a0 = 112
          ·
           rw [if_pos c175] at H
           have c175b0 : (a0 == 112) = true := beq_iff_eq.mpr c175; have c175b1 : (a0 != 112) = false := bne_eq_false_iff_eq.mpr c175; clear c175; replace H := Option.bind_eq_some_iff.mp H; obtain ⟨t126, A1760, H⟩ := H
           replace H : (if t126 = true then (if 0 ≤ x10_4 then (some (shr .u64 a2_0 x10_4, shr .u64 a2_1 x10_4)) else (none)) else (some (0, a2_1))) = some (r1, r2) := H
           have A176 := Aside0.mk A1760; clear A1760
           by_cases c177 : t126 = true
           ·
            subst c177
            have H1 : (if 0 ≤ x10_4 then (some (shr .u64 a2_0 x10_4, shr .u64 a2_1 x10_4)) else (none)) = some (r1, r2) := by rw [if_pos rfl] at H; exact H
            clear H; have H := H1; clear H1
            by_cases c178 : 0 ≤ x10_4
            ·
             rw [if_pos c178] at H
             have c178b0 := eq_true c178
             have c178b1 : decide (0 ≤ x10_4) = true := decide_eq_true c178; clear c178
             obtain ⟨ji179, hji179⟩ : ∃ j_ : Int, (shr .u64 a2_0 x10_4) = j_ := ⟨_, rfl⟩
             replace H : (some (ji179, shr .u64 a2_1 x10_4)) = some (r1, r2) := by first | (rw [hji179] at H; exact H) | (simp only [hji179] at H ⊢; exact H)
             (try rw [hji179] at A176)
             have hji179_ : (a2_0 / 2 ^ min x10_4.toNat 64) = ji179 := hji179
             have hji179z : x10_4 ≤ 64 → (a2_0 / 2 ^ x10_4.toNat) = ji179 := shr_small hji179
             have c180b0 := eq_true (of_decide_eq_true (by first | (with_reducible assumption) | assumption) : 0 ≤ x10_4)
             obtain ⟨ji181, hji181⟩ : ∃ j_ : Int, (shr .u64 a2_1 x10_4) = j_ := ⟨_, rfl⟩
             replace H : (some (ji179, ji181)) = some (r1, r2) := by first | (rw [hji181] at H; exact H) | (simp only [hji181] at H ⊢; exact H)
             (try rw [hji181] at A176)
             have hji181_ : (a2_1 / 2 ^ min x10_4.toNat 64) = ji181 := hji181
             have hji181z : x10_4 ≤ 64 → (a2_1 / 2 ^ x10_4.toNat) = ji181 := shr_small hji181
             simp only [Option.some.injEq, Prod.mk.injEq] at H; obtain ⟨rfl, rfl⟩ := H; have hnb182 := NB119_118.out; have hnc182 := NB118_119.out; have hnb183 := NB119_120.out; have hnc183 := NB120_119.out; have hnb184 := NB119_121.out; have hnc184 := NB121_119.out; have hcz185_0 : wc.cell? ⟨gb119, 0, none⟩ = some (.int .u64 a3_0) := (blk_cell BK119.out 0).trans rfl; have hcz185_1 : wc.cell? ⟨gb119, 1, none⟩ = some (.int .u64 a3_1) := (blk_cell BK119.out 1).trans rfl; have hfz185_0 := blk_frozen BK119.out 0; have hfz185_1 := blk_frozen BK119.out 1
             go_wp2_with (first | ((with_reducible refine gate_callee (f := 50) rfl ?_); refine goesL_ (some 151) rfl rfl Try.func50 (by kernel_rfl) rfl #[.agg #[.int .u64 a3_0, .int .u64 a3_1]] rfl (by (try simp only [List.map_toArray, List.map_cons, List.map_nil]); first | done | rfl | (simp only [List.length_drop, List.length_take]; rfl)) ?_; (with_reducible refine (span_one.calls a3_0 a3_1 true _ A176.out).mono ?_); rintro e w186 ⟨rfl, hb⟩; refine ⟨_, rfl, ?_⟩; have n0_ := Aside0.mk (blk_below (g := gb118) (o := .cells #[.int .u64 a2_0, .int .u64 a2_1] 58 (0, 0)) (by (with_reducible repeat (first | apply bN | apply bD | apply bA)); exact BK118.out) hb); have n1_ := Aside0.mk (blk_below (g := gb119) (o := .cells #[.int .u64 a3_0, .int .u64 a3_1] 58 (0, 0)) (by (with_reducible repeat (first | apply bN | apply bD | apply bA)); exact BK119.out) hb); have n2_ := Aside0.mk (blk_below (g := gb120) (o := .cells #[.int .u64 0, .int .u64 0] 58 (0, 0)) (by (with_reducible repeat (first | apply bN | apply bD | apply bA)); exact BK120.out) hb); have n3_ := Aside0.mk (blk_below (g := gb121) (o := .cells #[.int .u64 0, .int .u64 a1] 58 (0, 0)) (by (with_reducible repeat (first | apply bN | apply bD | apply bA)); exact BK121.out) hb); have n4_ := Aside0.mk (below_step (by repeat (first | (with_reducible first | exact HB.out | apply lA | apply lN | apply lD | refine lS ?_ ‹_›) | exact HB.out)) hb); clear BK118; clear BK119; clear BK120; clear BK121; clear HB; have BK118 := n0_; have BK119 := n1_; have BK120 := n2_; have BK121 := n3_; have HB := n4_; clear n0_ n1_ n2_ n3_ n4_; (try clear hb); (try clear hb2); (try clear hk); (try clear hi); have hnb187 := NB118_120.out; have hnc187 := NB120_118.out; have hnb188 := NB118_121.out; have hnc188 := NB121_118.out; have hcz189_0 : w186.cell? ⟨gb118, 0, none⟩ = some (.int .u64 a2_0) := (blk_cell BK118.out 0).trans rfl; have hcz189_1 : w186.cell? ⟨gb118, 1, none⟩ = some (.int .u64 a2_1) := (blk_cell BK118.out 1).trans rfl; have hfz189_0 := blk_frozen BK118.out 0; have hfz189_1 := blk_frozen BK118.out 1; have hnb190 := NB120_121.out; have hnc190 := NB121_120.out; have hcz191_0 : w186.cell? ⟨gb120, 0, none⟩ = some (.int .u64 0) := (blk_cell BK120.out 0).trans rfl; have hcz191_1 : w186.cell? ⟨gb120, 1, none⟩ = some (.int .u64 0) := (blk_cell BK120.out 1).trans rfl; have hfz191_0 := blk_frozen BK120.out 0; have hfz191_1 := blk_frozen BK120.out 1))
             refine bodyPost_ret (results_cell_row rfl _ _ gb120 58 #[.int .u64 ji179, .int .u64 ji181] (0, 0) _ rfl (by (with_reducible repeat (first | apply bN | apply bD | apply bA)); refine blk_put (cs := #[.int .u64 ji179, .int .u64 0]) ?_ 1 _ rfl; (with_reducible repeat (first | apply bN | apply bD | apply bA)); refine blk_put (cs := #[.int .u64 0, .int .u64 0]) ?_ 0 _ rfl; (with_reducible repeat (first | apply bN | apply bD | apply bA)); exact BK120.out) Try.underlying58 rfl (by kernel_rfl)) rfl ?_
             exact ⟨by first | rfl | (simp [errW_none, errW_some] <;> rfl) | (simp only [← hji179, ← hji181]; first | rfl | (simp [errW_none, errW_some] <;> rfl)) | (simp [*, errW_none, errW_some] <;> rfl), by repeat (first | (with_reducible first | exact HB.out | apply lA | apply lN | apply lD | refine lS ?_ ‹_›) | exact HB.out)⟩
            ·
             rw [if_neg c178] at H
             exact absurd H (by simp)
           ·
            replace c177 := Bool.eq_false_iff.mpr c177
            subst c177
            have H1 : (some (0, a2_1)) = some (r1, r2) := by rw [if_neg (show ¬ (false = true) by decide)] at H; exact H
            clear H; have H := H1; clear H1; simp only [Option.some.injEq, Prod.mk.injEq] at H; obtain ⟨rfl, rfl⟩ := H; have hnb192 := NB119_118.out; have hnc192 := NB118_119.out; have hnb193 := NB119_120.out; have hnc193 := NB120_119.out; have hnb194 := NB119_121.out; have hnc194 := NB121_119.out; have hcz195_0 : wc.cell? ⟨gb119, 0, none⟩ = some (.int .u64 a3_0) := (blk_cell BK119.out 0).trans rfl; have hcz195_1 : wc.cell? ⟨gb119, 1, none⟩ = some (.int .u64 a3_1) := (blk_cell BK119.out 1).trans rfl; have hfz195_0 := blk_frozen BK119.out 0; have hfz195_1 := blk_frozen BK119.out 1
            go_wp2_with (first | ((with_reducible refine gate_callee (f := 50) rfl ?_); refine goesL_ (some 151) rfl rfl Try.func50 (by kernel_rfl) rfl #[.agg #[.int .u64 a3_0, .int .u64 a3_1]] rfl (by (try simp only [List.map_toArray, List.map_cons, List.map_nil]); first | done | rfl | (simp only [List.length_drop, List.length_take]; rfl)) ?_; (with_reducible refine (span_one.calls a3_0 a3_1 false _ A176.out).mono ?_); rintro e w196 ⟨rfl, hb⟩; refine ⟨_, rfl, ?_⟩; have n0_ := Aside0.mk (blk_below (g := gb118) (o := .cells #[.int .u64 a2_0, .int .u64 a2_1] 58 (0, 0)) (by (with_reducible repeat (first | apply bN | apply bD | apply bA)); exact BK118.out) hb); have n1_ := Aside0.mk (blk_below (g := gb119) (o := .cells #[.int .u64 a3_0, .int .u64 a3_1] 58 (0, 0)) (by (with_reducible repeat (first | apply bN | apply bD | apply bA)); exact BK119.out) hb); have n2_ := Aside0.mk (blk_below (g := gb120) (o := .cells #[.int .u64 0, .int .u64 0] 58 (0, 0)) (by (with_reducible repeat (first | apply bN | apply bD | apply bA)); exact BK120.out) hb); have n3_ := Aside0.mk (blk_below (g := gb121) (o := .cells #[.int .u64 0, .int .u64 a1] 58 (0, 0)) (by (with_reducible repeat (first | apply bN | apply bD | apply bA)); exact BK121.out) hb); have n4_ := Aside0.mk (below_step (by repeat (first | (with_reducible first | exact HB.out | apply lA | apply lN | apply lD | refine lS ?_ ‹_›) | exact HB.out)) hb); clear BK118; clear BK119; clear BK120; clear BK121; clear HB; have BK118 := n0_; have BK119 := n1_; have BK120 := n2_; have BK121 := n3_; have HB := n4_; clear n0_ n1_ n2_ n3_ n4_; (try clear hb); (try clear hb2); (try clear hk); (try clear hi); have hnb197 := NB118_120.out; have hnc197 := NB120_118.out; have hnb198 := NB118_121.out; have hnc198 := NB121_118.out; have hcz199_0 : w196.cell? ⟨gb118, 0, none⟩ = some (.int .u64 a2_0) := (blk_cell BK118.out 0).trans rfl; have hcz199_1 : w196.cell? ⟨gb118, 1, none⟩ = some (.int .u64 a2_1) := (blk_cell BK118.out 1).trans rfl; have hfz199_0 := blk_frozen BK118.out 0; have hfz199_1 := blk_frozen BK118.out 1; have hnb200 := NB120_121.out; have hnc200 := NB121_120.out; have hcz201_0 : w196.cell? ⟨gb120, 0, none⟩ = some (.int .u64 0) := (blk_cell BK120.out 0).trans rfl; have hcz201_1 : w196.cell? ⟨gb120, 1, none⟩ = some (.int .u64 0) := (blk_cell BK120.out 1).trans rfl; have hfz201_0 := blk_frozen BK120.out 0; have hfz201_1 := blk_frozen BK120.out 1))
            refine bodyPost_ret (results_cell_row rfl _ _ gb120 58 #[.int .u64 0, .int .u64 a2_1] (0, 0) _ rfl (by (with_reducible repeat (first | apply bN | apply bD | apply bA)); refine blk_put (cs := #[.int .u64 0, .int .u64 0]) ?_ 1 _ rfl; (with_reducible repeat (first | apply bN | apply bD | apply bA)); refine blk_put (cs := #[.int .u64 0, .int .u64 0]) ?_ 0 _ rfl; (with_reducible repeat (first | apply bN | apply bD | apply bA)); exact BK120.out) Try.underlying58 rfl (by kernel_rfl)) rfl ?_
            exact ⟨by first | rfl | (simp [errW_none, errW_some] <;> rfl) | (simp [*, errW_none, errW_some] <;> rfl), by repeat (first | (with_reducible first | exact HB.out | apply lA | apply lN | apply lD | refine lS ?_ ‹_›) | exact HB.out)⟩
          ·
           rw [if_neg c175] at H
           have c175b0 : (a0 == 112) = false := beq_eq_false_iff_ne.mpr c175; have c175b1 : (a0 != 112) = true := bne_iff_ne.mpr c175
           by_cases c202 : a0 = 144
           ·
            rw [if_pos c202] at H
            have c202b0 : (a0 == 144) = true := beq_iff_eq.mpr c202; have c202b1 : (a0 != 144) = false := bne_eq_false_iff_eq.mpr c202; clear c202
            by_cases c203 : a2_1 < a3_0
            ·
             rw [if_pos c203] at H
             have c203b0 : decide (a2_1 < a3_0) = true := decide_eq_true c203; clear c203; simp only [Option.some.injEq, Prod.mk.injEq] at H; obtain ⟨rfl, rfl⟩ := H; have hnb204 := NB118_119.out; have hnc204 := NB119_118.out; have hnb205 := NB118_120.out; have hnc205 := NB120_118.out; have hnb206 := NB118_121.out; have hnc206 := NB121_118.out; have hcz207_0 : wc.cell? ⟨gb118, 0, none⟩ = some (.int .u64 a2_0) := (blk_cell BK118.out 0).trans rfl; have hcz207_1 : wc.cell? ⟨gb118, 1, none⟩ = some (.int .u64 a2_1) := (blk_cell BK118.out 1).trans rfl; have hfz207_0 := blk_frozen BK118.out 0; have hfz207_1 := blk_frozen BK118.out 1; have hnb208 := NB119_120.out; have hnc208 := NB120_119.out; have hnb209 := NB119_121.out; have hnc209 := NB121_119.out; have hcz210_0 : wc.cell? ⟨gb119, 0, none⟩ = some (.int .u64 a3_0) := (blk_cell BK119.out 0).trans rfl; have hcz210_1 : wc.cell? ⟨gb119, 1, none⟩ = some (.int .u64 a3_1) := (blk_cell BK119.out 1).trans rfl; have hfz210_0 := blk_frozen BK119.out 0; have hfz210_1 := blk_frozen BK119.out 1; have hnb211 := NB120_121.out; have hnc211 := NB121_120.out; have hcz212_0 : wc.cell? ⟨gb120, 0, none⟩ = some (.int .u64 0) := (blk_cell BK120.out 0).trans rfl; have hcz212_1 : wc.cell? ⟨gb120, 1, none⟩ = some (.int .u64 0) := (blk_cell BK120.out 1).trans rfl; have hfz212_0 := blk_frozen BK120.out 0; have hfz212_1 := blk_frozen BK120.out 1
             go_wp2
             refine bodyPost_ret (results_cell_row rfl _ _ gb120 58 #[.int .u64 a2_0, .int .u64 a2_1] (0, 0) _ rfl (by (with_reducible repeat (first | apply bN | apply bD | apply bA)); refine blk_put (cs := #[.int .u64 a2_0, .int .u64 0]) ?_ 1 _ rfl; (with_reducible repeat (first | apply bN | apply bD | apply bA)); refine blk_put (cs := #[.int .u64 0, .int .u64 0]) ?_ 0 _ rfl; (with_reducible repeat (first | apply bN | apply bD | apply bA)); exact BK120.out) Try.underlying58 rfl (by kernel_rfl)) rfl ?_
             exact ⟨by first | rfl | (simp [errW_none, errW_some] <;> rfl) | (simp [*, errW_none, errW_some] <;> rfl), by repeat (first | (with_reducible first | exact HB.out | apply lA | apply lN | apply lD | refine lS ?_ ‹_›) | exact HB.out)⟩
            ·
             rw [if_neg c203] at H
             have c203b0 : decide (a2_1 < a3_0) = false := decide_eq_false c203; clear c203
             by_cases c213 : a3_0 > 0
             ·
              rw [if_pos c213] at H
              have c213b0 : decide (0 < a3_0) = true := decide_eq_true c213; clear c213
              obtain ⟨ji214, hji214⟩ : ∃ j_ : Int, (mn a2_1 (IntKind.u64.wrap (a3_1 - 1))) = j_ := ⟨_, rfl⟩
              replace H : (some (0, ji214)) = some (r1, r2) := by first | (rw [hji214] at H; exact H) | (simp only [hji214] at H ⊢; exact H)
              have hji214_ : (if (IntKind.u64.wrap (a3_1 - 1)) < a2_1 then (IntKind.u64.wrap (a3_1 - 1)) else a2_1) = ji214 := hji214
              simp only [Option.some.injEq, Prod.mk.injEq] at H; obtain ⟨rfl, rfl⟩ := H; have hnb215 := NB118_119.out; have hnc215 := NB119_118.out; have hnb216 := NB118_120.out; have hnc216 := NB120_118.out; have hnb217 := NB118_121.out; have hnc217 := NB121_118.out; have hcz218_0 : wc.cell? ⟨gb118, 0, none⟩ = some (.int .u64 a2_0) := (blk_cell BK118.out 0).trans rfl; have hcz218_1 : wc.cell? ⟨gb118, 1, none⟩ = some (.int .u64 a2_1) := (blk_cell BK118.out 1).trans rfl; have hfz218_0 := blk_frozen BK118.out 0; have hfz218_1 := blk_frozen BK118.out 1; have hnb219 := NB119_120.out; have hnc219 := NB120_119.out; have hnb220 := NB119_121.out; have hnc220 := NB121_119.out; have hcz221_0 : wc.cell? ⟨gb119, 0, none⟩ = some (.int .u64 a3_0) := (blk_cell BK119.out 0).trans rfl; have hcz221_1 : wc.cell? ⟨gb119, 1, none⟩ = some (.int .u64 a3_1) := (blk_cell BK119.out 1).trans rfl; have hfz221_0 := blk_frozen BK119.out 0; have hfz221_1 := blk_frozen BK119.out 1; have hnb222 := NB120_121.out; have hnc222 := NB121_120.out; have hcz223_0 : wc.cell? ⟨gb120, 0, none⟩ = some (.int .u64 0) := (blk_cell BK120.out 0).trans rfl; have hcz223_1 : wc.cell? ⟨gb120, 1, none⟩ = some (.int .u64 0) := (blk_cell BK120.out 1).trans rfl; have hfz223_0 := blk_frozen BK120.out 0; have hfz223_1 := blk_frozen BK120.out 1
              go_wp2
              refine bodyPost_ret (results_cell_row rfl _ _ gb120 58 #[.int .u64 0, .int .u64 ji214] (0, 0) _ rfl (by (with_reducible repeat (first | apply bN | apply bD | apply bA)); refine blk_put (cs := #[.int .u64 0, .int .u64 0]) ?_ 1 _ rfl; (with_reducible repeat (first | apply bN | apply bD | apply bA)); refine blk_put (cs := #[.int .u64 0, .int .u64 0]) ?_ 0 _ rfl; (with_reducible repeat (first | apply bN | apply bD | apply bA)); exact BK120.out) Try.underlying58 rfl (by kernel_rfl)) rfl ?_
              exact ⟨by first | rfl | (simp [errW_none, errW_some] <;> rfl) | (simp only [← hji214]; first | rfl | (simp [errW_none, errW_some] <;> rfl)) | (simp [*, errW_none, errW_some] <;> rfl), by repeat (first | (with_reducible first | exact HB.out | apply lA | apply lN | apply lD | refine lS ?_ ‹_›) | exact HB.out)⟩
             ·
              rw [if_neg c213] at H
              have c213b0 : decide (0 < a3_0) = false := decide_eq_false c213; clear c213; simp only [Option.some.injEq, Prod.mk.injEq] at H; obtain ⟨rfl, rfl⟩ := H; have hnb224 := NB118_119.out; have hnc224 := NB119_118.out; have hnb225 := NB118_120.out; have hnc225 := NB120_118.out; have hnb226 := NB118_121.out; have hnc226 := NB121_118.out; have hcz227_0 : wc.cell? ⟨gb118, 0, none⟩ = some (.int .u64 a2_0) := (blk_cell BK118.out 0).trans rfl; have hcz227_1 : wc.cell? ⟨gb118, 1, none⟩ = some (.int .u64 a2_1) := (blk_cell BK118.out 1).trans rfl; have hfz227_0 := blk_frozen BK118.out 0; have hfz227_1 := blk_frozen BK118.out 1; have hnb228 := NB119_120.out; have hnc228 := NB120_119.out; have hnb229 := NB119_121.out; have hnc229 := NB121_119.out; have hcz230_0 : wc.cell? ⟨gb119, 0, none⟩ = some (.int .u64 a3_0) := (blk_cell BK119.out 0).trans rfl; have hcz230_1 : wc.cell? ⟨gb119, 1, none⟩ = some (.int .u64 a3_1) := (blk_cell BK119.out 1).trans rfl; have hfz230_0 := blk_frozen BK119.out 0; have hfz230_1 := blk_frozen BK119.out 1; have hnb231 := NB120_121.out; have hnc231 := NB121_120.out; have hcz232_0 : wc.cell? ⟨gb120, 0, none⟩ = some (.int .u64 0) := (blk_cell BK120.out 0).trans rfl; have hcz232_1 : wc.cell? ⟨gb120, 1, none⟩ = some (.int .u64 0) := (blk_cell BK120.out 1).trans rfl; have hfz232_0 := blk_frozen BK120.out 0; have hfz232_1 := blk_frozen BK120.out 1
              go_wp2
              refine bodyPost_ret (results_cell_row rfl _ _ gb120 58 #[.int .u64 0, .int .u64 a2_1] (0, 0) _ rfl (by (with_reducible repeat (first | apply bN | apply bD | apply bA)); refine blk_put (cs := #[.int .u64 0, .int .u64 0]) ?_ 1 _ rfl; (with_reducible repeat (first | apply bN | apply bD | apply bA)); refine blk_put (cs := #[.int .u64 0, .int .u64 0]) ?_ 0 _ rfl; (with_reducible repeat (first | apply bN | apply bD | apply bA)); exact BK120.out) Try.underlying58 rfl (by kernel_rfl)) rfl ?_
              exact ⟨by first | rfl | (simp [errW_none, errW_some] <;> rfl) | (simp [*, errW_none, errW_some] <;> rfl), by repeat (first | (with_reducible first | exact HB.out | apply lA | apply lN | apply lD | refine lS ?_ ‹_›) | exact HB.out)⟩
           ·
            rw [if_neg c202] at H
            have c202b0 : (a0 == 144) = false := beq_eq_false_iff_ne.mpr c202; have c202b1 : (a0 != 144) = true := bne_iff_ne.mpr c202
            by_cases c233 : a0 = 160
            ·
             rw [if_pos c233] at H
             have c233b0 : (a0 == 160) = true := beq_iff_eq.mpr c233; have c233b1 : (a0 != 160) = false := bne_eq_false_iff_eq.mpr c233; clear c233; replace H := Option.bind_eq_some_iff.mp H; obtain ⟨t127, A2340, H⟩ := H
             replace H : (some (0, t127)) = some (r1, r2) := H
             have A234 := Aside0.mk A2340; clear A2340; simp only [Option.some.injEq, Prod.mk.injEq] at H; obtain ⟨rfl, rfl⟩ := H; have hnb235 := NB118_119.out; have hnc235 := NB119_118.out; have hnb236 := NB118_120.out; have hnc236 := NB120_118.out; have hnb237 := NB118_121.out; have hnc237 := NB121_118.out; have hcz238_0 : wc.cell? ⟨gb118, 0, none⟩ = some (.int .u64 a2_0) := (blk_cell BK118.out 0).trans rfl; have hcz238_1 : wc.cell? ⟨gb118, 1, none⟩ = some (.int .u64 a2_1) := (blk_cell BK118.out 1).trans rfl; have hfz238_0 := blk_frozen BK118.out 0; have hfz238_1 := blk_frozen BK118.out 1; have hnb239 := NB119_120.out; have hnc239 := NB120_119.out; have hnb240 := NB119_121.out; have hnc240 := NB121_119.out; have hcz241_0 : wc.cell? ⟨gb119, 0, none⟩ = some (.int .u64 a3_0) := (blk_cell BK119.out 0).trans rfl; have hcz241_1 : wc.cell? ⟨gb119, 1, none⟩ = some (.int .u64 a3_1) := (blk_cell BK119.out 1).trans rfl; have hfz241_0 := blk_frozen BK119.out 0; have hfz241_1 := blk_frozen BK119.out 1
             go_wp2_with (first | ((with_reducible refine gate_callee (f := 60) rfl ?_); refine goesL_ (some 194) rfl rfl Try.func60 (by kernel_rfl) rfl #[.int .u64 (Go.bits .or .u64 a2_1 a3_1)] rfl (by (try simp only [List.map_toArray, List.map_cons, List.map_nil]); first | done | rfl | (simp only [List.length_drop, List.length_take]; rfl)) ?_; (with_reducible refine (span_below.calls (Go.bits .or .u64 a2_1 a3_1) t127 _ A234.out).mono ?_); rintro e w' ⟨rfl, ⟨nd, rfl⟩⟩; refine ⟨_, rfl, ?_⟩; (try (rw [drewN_self wc]; generalize hq_ : World.drewN wc _ = wc; have n0_ : Aside0 (wc.heap[gb118]? = some (.cells #[.int .u64 a2_0, .int .u64 a2_1] 58 (0, 0))) := ⟨by rw [← hq_]; exact (by (with_reducible repeat (first | apply bN | apply bD | apply bA)); exact BK118.out)⟩; have n1_ : Aside0 (wc.heap[gb119]? = some (.cells #[.int .u64 a3_0, .int .u64 a3_1] 58 (0, 0))) := ⟨by rw [← hq_]; exact (by (with_reducible repeat (first | apply bN | apply bD | apply bA)); exact BK119.out)⟩; have n2_ : Aside0 (wc.heap[gb120]? = some (.cells #[.int .u64 0, .int .u64 0] 58 (0, 0))) := ⟨by rw [← hq_]; exact (by (with_reducible repeat (first | apply bN | apply bD | apply bA)); exact BK120.out)⟩; have n3_ : Aside0 (wc.heap[gb121]? = some (.cells #[.int .u64 0, .int .u64 a1] 58 (0, 0))) := ⟨by rw [← hq_]; exact (by (with_reducible repeat (first | apply bN | apply bD | apply bA)); exact BK121.out)⟩; have n4_ : Aside0 (Below w.heap.size w wc) := ⟨by rw [← hq_]; exact (by repeat (first | (with_reducible first | exact HB.out | apply lA | apply lN | apply lD | refine lS ?_ ‹_›) | exact HB.out))⟩; clear BK118 BK119 BK120 BK121 HB hq_; have BK118 := n0_; have BK119 := n1_; have BK120 := n2_; have BK121 := n3_; have HB := n4_; clear n0_ n1_ n2_ n3_ n4_)); have hcz238_0 : wc.cell? ⟨gb118, 0, none⟩ = some (.int .u64 a2_0) := (blk_cell BK118.out 0).trans rfl; have hcz238_1 : wc.cell? ⟨gb118, 1, none⟩ = some (.int .u64 a2_1) := (blk_cell BK118.out 1).trans rfl; have hfz238_0 := blk_frozen BK118.out 0; have hfz238_1 := blk_frozen BK118.out 1; have hcz241_0 : wc.cell? ⟨gb119, 0, none⟩ = some (.int .u64 a3_0) := (blk_cell BK119.out 0).trans rfl; have hcz241_1 : wc.cell? ⟨gb119, 1, none⟩ = some (.int .u64 a3_1) := (blk_cell BK119.out 1).trans rfl; have hfz241_0 := blk_frozen BK119.out 0; have hfz241_1 := blk_frozen BK119.out 1; have hnb242 := NB120_121.out; have hnc242 := NB121_120.out; have hcz243_0 : wc.cell? ⟨gb120, 0, none⟩ = some (.int .u64 0) := (blk_cell BK120.out 0).trans rfl; have hcz243_1 : wc.cell? ⟨gb120, 1, none⟩ = some (.int .u64 0) := (blk_cell BK120.out 1).trans rfl; have hfz243_0 := blk_frozen BK120.out 0; have hfz243_1 := blk_frozen BK120.out 1))
             refine bodyPost_ret (results_cell_row rfl _ _ gb120 58 #[.int .u64 0, .int .u64 t127] (0, 0) _ rfl (by (with_reducible repeat (first | apply bN | apply bD | apply bA)); refine blk_put (cs := #[.int .u64 0, .int .u64 0]) ?_ 1 _ rfl; (with_reducible repeat (first | apply bN | apply bD | apply bA)); refine blk_put (cs := #[.int .u64 0, .int .u64 0]) ?_ 0 _ rfl; (with_reducible repeat (first | apply bN | apply bD | apply bA)); exact BK120.out) Try.underlying58 rfl (by kernel_rfl)) rfl ?_
             exact ⟨by first | rfl | (simp [errW_none, errW_some] <;> rfl) | (simp [*, errW_none, errW_some] <;> rfl), by repeat (first | (with_reducible first | exact HB.out | apply lA | apply lN | apply lD | refine lS ?_ ‹_›) | exact HB.out)⟩
            ·
             rw [if_neg c233] at H
             have c233b0 : (a0 == 160) = false := beq_eq_false_iff_ne.mpr c233; have c233b1 : (a0 != 160) = true := bne_iff_ne.mpr c233
             by_cases c244 : a0 = 176
             ·
              rw [if_pos c244] at H
              have c244b0 : (a0 == 176) = true := beq_iff_eq.mpr c244; have c244b1 : (a0 != 176) = false := bne_eq_false_iff_eq.mpr c244; clear c244; simp only [Option.some.injEq, Prod.mk.injEq] at H; obtain ⟨rfl, rfl⟩ := H; have hnb245 := NB119_118.out; have hnc245 := NB118_119.out; have hnb246 := NB119_120.out; have hnc246 := NB120_119.out; have hnb247 := NB119_121.out; have hnc247 := NB121_119.out; have hcz248_0 : wc.cell? ⟨gb119, 0, none⟩ = some (.int .u64 a3_0) := (blk_cell BK119.out 0).trans rfl; have hcz248_1 : wc.cell? ⟨gb119, 1, none⟩ = some (.int .u64 a3_1) := (blk_cell BK119.out 1).trans rfl; have hfz248_0 := blk_frozen BK119.out 0; have hfz248_1 := blk_frozen BK119.out 1; have hnb249 := NB120_118.out; have hnc249 := NB118_120.out; have hnb250 := NB120_121.out; have hnc250 := NB121_120.out; have hcz251_0 : wc.cell? ⟨gb120, 0, none⟩ = some (.int .u64 0) := (blk_cell BK120.out 0).trans rfl; have hcz251_1 : wc.cell? ⟨gb120, 1, none⟩ = some (.int .u64 0) := (blk_cell BK120.out 1).trans rfl; have hfz251_0 := blk_frozen BK120.out 0; have hfz251_1 := blk_frozen BK120.out 1
              go_wp2
              refine bodyPost_ret (results_cell_row rfl _ _ gb120 58 #[.int .u64 a3_0, .int .u64 a3_1] (0, 0) _ rfl (by (with_reducible repeat (first | apply bN | apply bD | apply bA)); refine blk_put (cs := #[.int .u64 a3_0, .int .u64 0]) ?_ 1 _ rfl; (with_reducible repeat (first | apply bN | apply bD | apply bA)); refine blk_put (cs := #[.int .u64 0, .int .u64 0]) ?_ 0 _ rfl; (with_reducible repeat (first | apply bN | apply bD | apply bA)); exact BK120.out) Try.underlying58 rfl (by kernel_rfl)) rfl ?_
              exact ⟨by first | rfl | (simp [errW_none, errW_some] <;> rfl) | (simp [*, errW_none, errW_some] <;> rfl), by repeat (first | (with_reducible first | exact HB.out | apply lA | apply lN | apply lD | refine lS ?_ ‹_›) | exact HB.out)⟩
             ·
              rw [if_neg c244] at H
              have c244b0 : (a0 == 176) = false := beq_eq_false_iff_ne.mpr c244; have c244b1 : (a0 != 176) = true := bne_iff_ne.mpr c244
              by_cases c252 : a0 = 192
              ·
               rw [if_pos c252] at H
               have c252b0 : (a0 == 192) = true := beq_iff_eq.mpr c252; have c252b1 : (a0 != 192) = false := bne_eq_false_iff_eq.mpr c252; clear c252
               by_cases c253 : a2_1 > (a1 / 2)
               ·
                rw [if_pos c253] at H
                have c253b0 : decide ((a1 / 2) < a2_1) = true := decide_eq_true c253; clear c253; simp only [Option.some.injEq, Prod.mk.injEq] at H; obtain ⟨rfl, rfl⟩ := H; have hnb254 := NB118_119.out; have hnc254 := NB119_118.out; have hnb255 := NB118_120.out; have hnc255 := NB120_118.out; have hnb256 := NB118_121.out; have hnc256 := NB121_118.out; have hcz257_0 : wc.cell? ⟨gb118, 0, none⟩ = some (.int .u64 a2_0) := (blk_cell BK118.out 0).trans rfl; have hcz257_1 : wc.cell? ⟨gb118, 1, none⟩ = some (.int .u64 a2_1) := (blk_cell BK118.out 1).trans rfl; have hfz257_0 := blk_frozen BK118.out 0; have hfz257_1 := blk_frozen BK118.out 1; have hnb258 := NB121_119.out; have hnc258 := NB119_121.out; have hnb259 := NB121_120.out; have hnc259 := NB120_121.out; have hcz260_0 : wc.cell? ⟨gb121, 0, none⟩ = some (.int .u64 0) := (blk_cell BK121.out 0).trans rfl; have hcz260_1 : wc.cell? ⟨gb121, 1, none⟩ = some (.int .u64 a1) := (blk_cell BK121.out 1).trans rfl; have hfz260_0 := blk_frozen BK121.out 0; have hfz260_1 := blk_frozen BK121.out 1; have hnb261 := NB120_119.out; have hnc261 := NB119_120.out; have hcz262_0 : wc.cell? ⟨gb120, 0, none⟩ = some (.int .u64 0) := (blk_cell BK120.out 0).trans rfl; have hcz262_1 : wc.cell? ⟨gb120, 1, none⟩ = some (.int .u64 0) := (blk_cell BK120.out 1).trans rfl; have hfz262_0 := blk_frozen BK120.out 0; have hfz262_1 := blk_frozen BK120.out 1
                go_wp2
                refine bodyPost_ret (results_cell_row rfl _ _ gb120 58 #[.int .u64 0, .int .u64 a1] (0, 0) _ rfl (by (with_reducible repeat (first | apply bN | apply bD | apply bA)); refine blk_put (cs := #[.int .u64 0, .int .u64 0]) ?_ 1 _ rfl; (with_reducible repeat (first | apply bN | apply bD | apply bA)); refine blk_put (cs := #[.int .u64 0, .int .u64 0]) ?_ 0 _ rfl; (with_reducible repeat (first | apply bN | apply bD | apply bA)); exact BK120.out) Try.underlying58 rfl (by kernel_rfl)) rfl ?_
                exact ⟨by first | rfl | (simp [errW_none, errW_some] <;> rfl) | (simp [*, errW_none, errW_some] <;> rfl), by repeat (first | (with_reducible first | exact HB.out | apply lA | apply lN | apply lD | refine lS ?_ ‹_›) | exact HB.out)⟩
               ·
                rw [if_neg c253] at H
                have c253b0 : decide ((a1 / 2) < a2_1) = false := decide_eq_false c253; clear c253; replace H := Option.bind_eq_some_iff.mp H; obtain ⟨t128, A2630, H⟩ := H
                replace H : (if t128 = true then (if 0 ≤ x10_4 then (some (shr .u64 a2_0 x10_4, shr .u64 a2_1 x10_4)) else (none)) else (some (0, a2_1))) = some (r1, r2) := H
                have A263 := Aside0.mk A2630; clear A2630
                by_cases c264 : t128 = true
                ·
                 subst c264
                 have H1 : (if 0 ≤ x10_4 then (some (shr .u64 a2_0 x10_4, shr .u64 a2_1 x10_4)) else (none)) = some (r1, r2) := by rw [if_pos rfl] at H; exact H
                 clear H; have H := H1; clear H1
                 by_cases c265 : 0 ≤ x10_4
                 ·
                  rw [if_pos c265] at H
                  have c265b0 := eq_true c265
                  have c265b1 : decide (0 ≤ x10_4) = true := decide_eq_true c265; clear c265
                  obtain ⟨ji266, hji266⟩ : ∃ j_ : Int, (shr .u64 a2_0 x10_4) = j_ := ⟨_, rfl⟩
                  replace H : (some (ji266, shr .u64 a2_1 x10_4)) = some (r1, r2) := by first | (rw [hji266] at H; exact H) | (simp only [hji266] at H ⊢; exact H)
                  (try rw [hji266] at A263)
                  have hji266_ : (a2_0 / 2 ^ min x10_4.toNat 64) = ji266 := hji266
                  have hji266z : x10_4 ≤ 64 → (a2_0 / 2 ^ x10_4.toNat) = ji266 := shr_small hji266
                  have c267b0 := eq_true (of_decide_eq_true (by first | (with_reducible assumption) | assumption) : 0 ≤ x10_4)
                  obtain ⟨ji268, hji268⟩ : ∃ j_ : Int, (shr .u64 a2_1 x10_4) = j_ := ⟨_, rfl⟩
                  replace H : (some (ji266, ji268)) = some (r1, r2) := by first | (rw [hji268] at H; exact H) | (simp only [hji268] at H ⊢; exact H)
                  (try rw [hji268] at A263)
                  have hji268_ : (a2_1 / 2 ^ min x10_4.toNat 64) = ji268 := hji268
                  have hji268z : x10_4 ≤ 64 → (a2_1 / 2 ^ x10_4.toNat) = ji268 := shr_small hji268
                  simp only [Option.some.injEq, Prod.mk.injEq] at H; obtain ⟨rfl, rfl⟩ := H; have hnb269 := NB118_119.out; have hnc269 := NB119_118.out; have hnb270 := NB118_120.out; have hnc270 := NB120_118.out; have hnb271 := NB118_121.out; have hnc271 := NB121_118.out; have hcz272_0 : wc.cell? ⟨gb118, 0, none⟩ = some (.int .u64 a2_0) := (blk_cell BK118.out 0).trans rfl; have hcz272_1 : wc.cell? ⟨gb118, 1, none⟩ = some (.int .u64 a2_1) := (blk_cell BK118.out 1).trans rfl; have hfz272_0 := blk_frozen BK118.out 0; have hfz272_1 := blk_frozen BK118.out 1; have hnb273 := NB119_120.out; have hnc273 := NB120_119.out; have hnb274 := NB119_121.out; have hnc274 := NB121_119.out; have hcz275_0 : wc.cell? ⟨gb119, 0, none⟩ = some (.int .u64 a3_0) := (blk_cell BK119.out 0).trans rfl; have hcz275_1 : wc.cell? ⟨gb119, 1, none⟩ = some (.int .u64 a3_1) := (blk_cell BK119.out 1).trans rfl; have hfz275_0 := blk_frozen BK119.out 0; have hfz275_1 := blk_frozen BK119.out 1
                  go_wp2_with (first | ((with_reducible refine gate_callee (f := 50) rfl ?_); refine goesL_ (some 208) rfl rfl Try.func50 (by kernel_rfl) rfl #[.agg #[.int .u64 a3_0, .int .u64 a3_1]] rfl (by (try simp only [List.map_toArray, List.map_cons, List.map_nil]); first | done | rfl | (simp only [List.length_drop, List.length_take]; rfl)) ?_; (with_reducible refine (span_one.calls a3_0 a3_1 true _ A263.out).mono ?_); rintro e w276 ⟨rfl, hb⟩; refine ⟨_, rfl, ?_⟩; have n0_ := Aside0.mk (blk_below (g := gb118) (o := .cells #[.int .u64 a2_0, .int .u64 a2_1] 58 (0, 0)) (by (with_reducible repeat (first | apply bN | apply bD | apply bA)); exact BK118.out) hb); have n1_ := Aside0.mk (blk_below (g := gb119) (o := .cells #[.int .u64 a3_0, .int .u64 a3_1] 58 (0, 0)) (by (with_reducible repeat (first | apply bN | apply bD | apply bA)); exact BK119.out) hb); have n2_ := Aside0.mk (blk_below (g := gb120) (o := .cells #[.int .u64 0, .int .u64 0] 58 (0, 0)) (by (with_reducible repeat (first | apply bN | apply bD | apply bA)); exact BK120.out) hb); have n3_ := Aside0.mk (blk_below (g := gb121) (o := .cells #[.int .u64 0, .int .u64 a1] 58 (0, 0)) (by (with_reducible repeat (first | apply bN | apply bD | apply bA)); exact BK121.out) hb); have n4_ := Aside0.mk (below_step (by repeat (first | (with_reducible first | exact HB.out | apply lA | apply lN | apply lD | refine lS ?_ ‹_›) | exact HB.out)) hb); clear BK118; clear BK119; clear BK120; clear BK121; clear HB; have BK118 := n0_; have BK119 := n1_; have BK120 := n2_; have BK121 := n3_; have HB := n4_; clear n0_ n1_ n2_ n3_ n4_; (try clear hb); (try clear hb2); (try clear hk); (try clear hi); have hcz277_0 : w276.cell? ⟨gb118, 0, none⟩ = some (.int .u64 a2_0) := (blk_cell BK118.out 0).trans rfl; have hcz277_1 : w276.cell? ⟨gb118, 1, none⟩ = some (.int .u64 a2_1) := (blk_cell BK118.out 1).trans rfl; have hfz277_0 := blk_frozen BK118.out 0; have hfz277_1 := blk_frozen BK118.out 1; have hnb278 := NB120_121.out; have hnc278 := NB121_120.out; have hcz279_0 : w276.cell? ⟨gb120, 0, none⟩ = some (.int .u64 0) := (blk_cell BK120.out 0).trans rfl; have hcz279_1 : w276.cell? ⟨gb120, 1, none⟩ = some (.int .u64 0) := (blk_cell BK120.out 1).trans rfl; have hfz279_0 := blk_frozen BK120.out 0; have hfz279_1 := blk_frozen BK120.out 1))
                  refine bodyPost_ret (results_cell_row rfl _ _ gb120 58 #[.int .u64 ji266, .int .u64 ji268] (0, 0) _ rfl (by (with_reducible repeat (first | apply bN | apply bD | apply bA)); refine blk_put (cs := #[.int .u64 ji266, .int .u64 0]) ?_ 1 _ rfl; (with_reducible repeat (first | apply bN | apply bD | apply bA)); refine blk_put (cs := #[.int .u64 0, .int .u64 0]) ?_ 0 _ rfl; (with_reducible repeat (first | apply bN | apply bD | apply bA)); exact BK120.out) Try.underlying58 rfl (by kernel_rfl)) rfl ?_
                  exact ⟨by first | rfl | (simp [errW_none, errW_some] <;> rfl) | (simp only [← hji266, ← hji268]; first | rfl | (simp [errW_none, errW_some] <;> rfl)) | (simp [*, errW_none, errW_some] <;> rfl), by repeat (first | (with_reducible first | exact HB.out | apply lA | apply lN | apply lD | refine lS ?_ ‹_›) | exact HB.out)⟩
                 ·
                  rw [if_neg c265] at H
                  exact absurd H (by simp)
                ·
                 replace c264 := Bool.eq_false_iff.mpr c264
                 subst c264
                 have H1 : (some (0, a2_1)) = some (r1, r2) := by rw [if_neg (show ¬ (false = true) by decide)] at H; exact H
                 clear H; have H := H1; clear H1; simp only [Option.some.injEq, Prod.mk.injEq] at H; obtain ⟨rfl, rfl⟩ := H; have hnb280 := NB118_119.out; have hnc280 := NB119_118.out; have hnb281 := NB118_120.out; have hnc281 := NB120_118.out; have hnb282 := NB118_121.out; have hnc282 := NB121_118.out; have hcz283_0 : wc.cell? ⟨gb118, 0, none⟩ = some (.int .u64 a2_0) := (blk_cell BK118.out 0).trans rfl; have hcz283_1 : wc.cell? ⟨gb118, 1, none⟩ = some (.int .u64 a2_1) := (blk_cell BK118.out 1).trans rfl; have hfz283_0 := blk_frozen BK118.out 0; have hfz283_1 := blk_frozen BK118.out 1; have hnb284 := NB119_120.out; have hnc284 := NB120_119.out; have hnb285 := NB119_121.out; have hnc285 := NB121_119.out; have hcz286_0 : wc.cell? ⟨gb119, 0, none⟩ = some (.int .u64 a3_0) := (blk_cell BK119.out 0).trans rfl; have hcz286_1 : wc.cell? ⟨gb119, 1, none⟩ = some (.int .u64 a3_1) := (blk_cell BK119.out 1).trans rfl; have hfz286_0 := blk_frozen BK119.out 0; have hfz286_1 := blk_frozen BK119.out 1
                 go_wp2_with (first | ((with_reducible refine gate_callee (f := 50) rfl ?_); refine goesL_ (some 208) rfl rfl Try.func50 (by kernel_rfl) rfl #[.agg #[.int .u64 a3_0, .int .u64 a3_1]] rfl (by (try simp only [List.map_toArray, List.map_cons, List.map_nil]); first | done | rfl | (simp only [List.length_drop, List.length_take]; rfl)) ?_; (with_reducible refine (span_one.calls a3_0 a3_1 false _ A263.out).mono ?_); rintro e w287 ⟨rfl, hb⟩; refine ⟨_, rfl, ?_⟩; have n0_ := Aside0.mk (blk_below (g := gb118) (o := .cells #[.int .u64 a2_0, .int .u64 a2_1] 58 (0, 0)) (by (with_reducible repeat (first | apply bN | apply bD | apply bA)); exact BK118.out) hb); have n1_ := Aside0.mk (blk_below (g := gb119) (o := .cells #[.int .u64 a3_0, .int .u64 a3_1] 58 (0, 0)) (by (with_reducible repeat (first | apply bN | apply bD | apply bA)); exact BK119.out) hb); have n2_ := Aside0.mk (blk_below (g := gb120) (o := .cells #[.int .u64 0, .int .u64 0] 58 (0, 0)) (by (with_reducible repeat (first | apply bN | apply bD | apply bA)); exact BK120.out) hb); have n3_ := Aside0.mk (blk_below (g := gb121) (o := .cells #[.int .u64 0, .int .u64 a1] 58 (0, 0)) (by (with_reducible repeat (first | apply bN | apply bD | apply bA)); exact BK121.out) hb); have n4_ := Aside0.mk (below_step (by repeat (first | (with_reducible first | exact HB.out | apply lA | apply lN | apply lD | refine lS ?_ ‹_›) | exact HB.out)) hb); clear BK118; clear BK119; clear BK120; clear BK121; clear HB; have BK118 := n0_; have BK119 := n1_; have BK120 := n2_; have BK121 := n3_; have HB := n4_; clear n0_ n1_ n2_ n3_ n4_; (try clear hb); (try clear hb2); (try clear hk); (try clear hi); have hcz288_0 : w287.cell? ⟨gb118, 0, none⟩ = some (.int .u64 a2_0) := (blk_cell BK118.out 0).trans rfl; have hcz288_1 : w287.cell? ⟨gb118, 1, none⟩ = some (.int .u64 a2_1) := (blk_cell BK118.out 1).trans rfl; have hfz288_0 := blk_frozen BK118.out 0; have hfz288_1 := blk_frozen BK118.out 1; have hnb289 := NB120_121.out; have hnc289 := NB121_120.out; have hcz290_0 : w287.cell? ⟨gb120, 0, none⟩ = some (.int .u64 0) := (blk_cell BK120.out 0).trans rfl; have hcz290_1 : w287.cell? ⟨gb120, 1, none⟩ = some (.int .u64 0) := (blk_cell BK120.out 1).trans rfl; have hfz290_0 := blk_frozen BK120.out 0; have hfz290_1 := blk_frozen BK120.out 1))
                 refine bodyPost_ret (results_cell_row rfl _ _ gb120 58 #[.int .u64 0, .int .u64 a2_1] (0, 0) _ rfl (by (with_reducible repeat (first | apply bN | apply bD | apply bA)); refine blk_put (cs := #[.int .u64 0, .int .u64 0]) ?_ 1 _ rfl; (with_reducible repeat (first | apply bN | apply bD | apply bA)); refine blk_put (cs := #[.int .u64 0, .int .u64 0]) ?_ 0 _ rfl; (with_reducible repeat (first | apply bN | apply bD | apply bA)); exact BK120.out) Try.underlying58 rfl (by kernel_rfl)) rfl ?_
                 exact ⟨by first | rfl | (simp [errW_none, errW_some] <;> rfl) | (simp [*, errW_none, errW_some] <;> rfl), by repeat (first | (with_reducible first | exact HB.out | apply lA | apply lN | apply lD | refine lS ?_ ‹_›) | exact HB.out)⟩
              ·
               rw [if_neg c252] at H
               have c252b0 : (a0 == 192) = false := beq_eq_false_iff_ne.mpr c252; have c252b1 : (a0 != 192) = true := bne_iff_ne.mpr c252; simp only [Option.some.injEq, Prod.mk.injEq] at H; obtain ⟨rfl, rfl⟩ := H; have hnb291 := NB121_118.out; have hnc291 := NB118_121.out; have hnb292 := NB121_119.out; have hnc292 := NB119_121.out; have hnb293 := NB121_120.out; have hnc293 := NB120_121.out; have hcz294_0 : wc.cell? ⟨gb121, 0, none⟩ = some (.int .u64 0) := (blk_cell BK121.out 0).trans rfl; have hcz294_1 : wc.cell? ⟨gb121, 1, none⟩ = some (.int .u64 a1) := (blk_cell BK121.out 1).trans rfl; have hfz294_0 := blk_frozen BK121.out 0; have hfz294_1 := blk_frozen BK121.out 1; have hnb295 := NB120_118.out; have hnc295 := NB118_120.out; have hnb296 := NB120_119.out; have hnc296 := NB119_120.out; have hcz297_0 : wc.cell? ⟨gb120, 0, none⟩ = some (.int .u64 0) := (blk_cell BK120.out 0).trans rfl; have hcz297_1 : wc.cell? ⟨gb120, 1, none⟩ = some (.int .u64 0) := (blk_cell BK120.out 1).trans rfl; have hfz297_0 := blk_frozen BK120.out 0; have hfz297_1 := blk_frozen BK120.out 1
               go_wp2
               refine bodyPost_ret (results_cell_row rfl _ _ gb120 58 #[.int .u64 0, .int .u64 a1] (0, 0) _ rfl (by (with_reducible repeat (first | apply bN | apply bD | apply bA)); refine blk_put (cs := #[.int .u64 0, .int .u64 0]) ?_ 1 _ rfl; (with_reducible repeat (first | apply bN | apply bD | apply bA)); refine blk_put (cs := #[.int .u64 0, .int .u64 0]) ?_ 0 _ rfl; (with_reducible repeat (first | apply bN | apply bD | apply bA)); exact BK120.out) Try.underlying58 rfl (by kernel_rfl)) rfl ?_
               exact ⟨by first | rfl | (simp [errW_none, errW_some] <;> rfl) | (simp [*, errW_none, errW_some] <;> rfl), by repeat (first | (with_reducible first | exact HB.out | apply lA | apply lN | apply lD | refine lS ?_ ‹_›) | exact HB.out)⟩

end Go.Proofs.Ytladlljnpmpdpaa.PSpanNarrow
