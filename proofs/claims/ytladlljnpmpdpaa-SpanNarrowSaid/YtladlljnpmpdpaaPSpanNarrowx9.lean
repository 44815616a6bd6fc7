-- Written by a program of this session (a variant of the print), for this claim. Lean checks it.
import Derived.Test.YtladlljnpmpdpaaPSpanNarrowx0
import Derived.Test.YtladlljnpmpdpaaPSpanNarrowx2
import Derived.Test.YtladlljnpmpdpaaPSpanNarrowx5
import Derived.Test.YtladlljnpmpdpaaPSpanNarrowx8
namespace Go.Proofs.Ytladlljnpmpdpaa.PSpanNarrow
open Go.RowKit Go.Proofs.YtladlljnpmpdpaaW.PrintWords Go.Proofs.YtladlljnpmpdpaaW.PrintLast Go.Proofs.YtladlljnpmpdpaaW.PrintMore
attribute [local go_sem] max2_int min2_int max_two min_two max_three min_three max_four min_four   -- for this text's walks alone
attribute [local go_sem high] Go.Proofs.Ytladlljnpmpdpaa.NotLaw.not_u64 Go.Proofs.Ytladlljnpmpdpaa.NotLaw.not_u32 Go.Proofs.Ytladlljnpmpdpaa.NotLaw.not_u16 Go.Proofs.Ytladlljnpmpdpaa.NotLaw.not_u8
set_option linter.unusedVariables false
set_option linter.unusedSimpArgs false

/-! ### span_narrow: function 53 -/
mutual
def span_narrow.j0 : Nat → Int → Bool → Bool → Bool → Int → Int → Int → Int → Option (Int × Int × Int × Int × Bool)
 | 0, _, _, _, _, _, _, _, _ => none
 | k + 1, x0, x1, x2, x21, x207000, x207001, x208000, x208001 => if x21 = true then ((alu_Holds.f k x0 x1 x207000 x208000).bind fun bt212 => (some (x207000, x207001, x208000, x208001, (bt212.1 == x2)))) else (if x1 = true then (span_narrow.j1 k x0 x1 x2 false x207000 x207001 x208000 x208001) else (span_narrow.j1 k x0 x1 x2 (((Go.bits .or .u64 x207001 x208001) / 4294967296) != 0) x207000 x207001 x208000 x208001))
def span_narrow.j1 : Nat → Int → Bool → Bool → Bool → Int → Int → Int → Int → Option (Int × Int × Int × Int × Bool)
 | 0, _, _, _, _, _, _, _, _ => none
 | k + 1, x0, x1, x2, x47, x207000, x207001, x208000, x208001 => if x47 = true then (some (x207000, x207001, x208000, x208001, true)) else (if x1 = true then (span_narrow.j2 k x0 x2 9223372036854775807 x207000 x207001 x208000 x208001) else (span_narrow.j2 k x0 x2 2147483647 x207000 x207001 x208000 x208001))
def span_narrow.j2 : Nat → Int → Bool → Int → Int → Int → Int → Int → Option (Int × Int × Int × Int × Bool)
 | 0, _, _, _, _, _, _, _ => none
 | k + 1, x0, x2, x15, x207000, x207001, x208000, x208001 => if x0 ≥ 96 then (if x0 ≤ 112 then (span_narrow.j3 k x0 x2 x15 true x207000 x207001 x208000 x208001) else (span_narrow.j3 k x0 x2 x15 (decide (x0 ≥ 192)) x207000 x207001 x208000 x208001)) else (span_narrow.j3 k x0 x2 x15 (decide (x0 ≥ 192)) x207000 x207001 x208000 x208001)
def span_narrow.j3 : Nat → Int → Bool → Int → Bool → Int → Int → Int → Int → Option (Int × Int × Int × Int × Bool)
 | 0, _, _, _, _, _, _, _, _ => none
 | k + 1, x0, x2, x15, x61, x207000, x207001, x208000, x208001 => if x61 = true then (if x207001 > x15 then (some (x207000, x207001, x208000, x208001, true)) else (if x208001 > x15 then (some (x207000, x207001, x208000, x208001, true)) else ((some (([32, 48, 160, 176] : List Int) : List Int)).bind fun y214 => (if 0 ≤ (wrap64 ((Go.bits .and .i64 (x0 / 16) 1) + (Go.bits .and .i64 (x0 / 64) 2))) then (if (wrap64 ((Go.bits .and .i64 (x0 / 16) 1) + (Go.bits .and .i64 (x0 / 64) 2))) < (y214.length : Int) then ((span_order.f k (rd y214 (wrap64 ((Go.bits .and .i64 (x0 / 16) 1) + (Go.bits .and .i64 (x0 / 64) 2)))) x2 x207000 x207001 x208000 x208001).bind fun bt218 => (some (bt218.1, bt218.2.1, bt218.2.2.1, bt218.2.2.2.1, bt218.2.2.2.2))) else (none)) else (none))))) else ((span_order.f k x0 x2 x207000 x207001 x208000 x208001).bind fun bt223 => (some (bt223.1, bt223.2.1, bt223.2.2.1, bt223.2.2.2.1, bt223.2.2.2.2)))
end
def span_narrow.f (k : Nat) (a0 : Int) (a1 : Bool) (a2 : Bool) (a3_0 : Int) (a3_1 : Int) (a4_0 : Int) (a4_1 : Int) : Option (Int × Int × Int × Int × Bool) := (span_one.f a3_0 a3_1).bind fun t210 => (if t210 = true then ((span_one.f a4_0 a4_1).bind fun t211 => (span_narrow.j0 k a0 a1 a2 t211 a3_0 a3_1 a4_0 a4_1)) else (span_narrow.j0 k a0 a1 a2 false a3_0 a3_1 a4_0 a4_1))
theorem span_narrow.mono_l : ∀ k, (∀ y0 y1 y2 y3 y4 y5 y6 y7, LeO (span_narrow.j0 k y0 y1 y2 y3 y4 y5 y6 y7) (span_narrow.j0 (k + 1) y0 y1 y2 y3 y4 y5 y6 y7)) ∧ (∀ y0 y1 y2 y3 y4 y5 y6 y7, LeO (span_narrow.j1 k y0 y1 y2 y3 y4 y5 y6 y7) (span_narrow.j1 (k + 1) y0 y1 y2 y3 y4 y5 y6 y7)) ∧ (∀ y0 y1 y2 y3 y4 y5 y6, LeO (span_narrow.j2 k y0 y1 y2 y3 y4 y5 y6) (span_narrow.j2 (k + 1) y0 y1 y2 y3 y4 y5 y6)) ∧ (∀ y0 y1 y2 y3 y4 y5 y6 y7, LeO (span_narrow.j3 k y0 y1 y2 y3 y4 y5 y6 y7) (span_narrow.j3 (k + 1) y0 y1 y2 y3 y4 y5 y6 y7))
 | 0 => ⟨fun _ _ _ _ _ _ _ _ r h => by simp [span_narrow.j0] at h, fun _ _ _ _ _ _ _ _ r h => by simp [span_narrow.j1] at h, fun _ _ _ _ _ _ _ r h => by simp [span_narrow.j2] at h, fun _ _ _ _ _ _ _ _ r h => by simp [span_narrow.j3] at h⟩
 | k + 1 => by
  obtain ⟨ih0, ih1, ih2, ih3⟩ := span_narrow.mono_l k
  refine ⟨?_, ?_, ?_, ?_⟩
  ·
   intro y0 y1 y2 y3 y4 y5 y6 y7
   unfold span_narrow.j0
   repeat' first
   | (with_reducible exact ih0 _ _ _ _ _ _ _ _)
   | (with_reducible exact ih1 _ _ _ _ _ _ _ _)
   | (with_reducible exact ih2 _ _ _ _ _ _ _)
   | (with_reducible exact ih3 _ _ _ _ _ _ _ _)
   | (with_reducible exact alu_Holds.mono _ _ _ _ _)
   | (with_reducible exact span_order.mono _ _ _ _ _ _ _)
   | (with_reducible exact LeO.refl _)
   | (with_reducible exact LeO.none _)
   | (with_reducible refine LeO.ite ?_ ?_)
   | (with_reducible refine LeO.bind ?_ (fun _ => ?_))
   | exact ih0 _ _ _ _ _ _ _ _
   | exact ih1 _ _ _ _ _ _ _ _
   | exact ih2 _ _ _ _ _ _ _
   | exact ih3 _ _ _ _ _ _ _ _
   | exact alu_Holds.mono _ _ _ _ _
   | exact span_order.mono _ _ _ _ _ _ _
   | exact LeO.none _
   | refine LeO.ite ?_ ?_
   | refine LeO.bind ?_ (fun _ => ?_)
  ·
   intro y0 y1 y2 y3 y4 y5 y6 y7
   unfold span_narrow.j1
   repeat' first
   | (with_reducible exact ih0 _ _ _ _ _ _ _ _)
   | (with_reducible exact ih1 _ _ _ _ _ _ _ _)
   | (with_reducible exact ih2 _ _ _ _ _ _ _)
   | (with_reducible exact ih3 _ _ _ _ _ _ _ _)
   | (with_reducible exact alu_Holds.mono _ _ _ _ _)
   | (with_reducible exact span_order.mono _ _ _ _ _ _ _)
   | (with_reducible exact LeO.refl _)
   | (with_reducible exact LeO.none _)
   | (with_reducible refine LeO.ite ?_ ?_)
   | (with_reducible refine LeO.bind ?_ (fun _ => ?_))
   | exact ih0 _ _ _ _ _ _ _ _
   | exact ih1 _ _ _ _ _ _ _ _
   | exact ih2 _ _ _ _ _ _ _
   | exact ih3 _ _ _ _ _ _ _ _
   | exact alu_Holds.mono _ _ _ _ _
   | exact span_order.mono _ _ _ _ _ _ _
   | exact LeO.none _
   | refine LeO.ite ?_ ?_
   | refine LeO.bind ?_ (fun _ => ?_)
  ·
   intro y0 y1 y2 y3 y4 y5 y6
   unfold span_narrow.j2
   repeat' first
   | (with_reducible exact ih0 _ _ _ _ _ _ _ _)
   | (with_reducible exact ih1 _ _ _ _ _ _ _ _)
   | (with_reducible exact ih2 _ _ _ _ _ _ _)
   | (with_reducible exact ih3 _ _ _ _ _ _ _ _)
   | (with_reducible exact alu_Holds.mono _ _ _ _ _)
   | (with_reducible exact span_order.mono _ _ _ _ _ _ _)
   | (with_reducible exact LeO.refl _)
   | (with_reducible exact LeO.none _)
   | (with_reducible refine LeO.ite ?_ ?_)
   | (with_reducible refine LeO.bind ?_ (fun _ => ?_))
   | exact ih0 _ _ _ _ _ _ _ _
   | exact ih1 _ _ _ _ _ _ _ _
   | exact ih2 _ _ _ _ _ _ _
   | exact ih3 _ _ _ _ _ _ _ _
   | exact alu_Holds.mono _ _ _ _ _
   | exact span_order.mono _ _ _ _ _ _ _
   | exact LeO.none _
   | refine LeO.ite ?_ ?_
   | refine LeO.bind ?_ (fun _ => ?_)
  ·
   intro y0 y1 y2 y3 y4 y5 y6 y7
   unfold span_narrow.j3
   repeat' first
   | (with_reducible exact ih0 _ _ _ _ _ _ _ _)
   | (with_reducible exact ih1 _ _ _ _ _ _ _ _)
   | (with_reducible exact ih2 _ _ _ _ _ _ _)
   | (with_reducible exact ih3 _ _ _ _ _ _ _ _)
   | (with_reducible exact alu_Holds.mono _ _ _ _ _)
   | (with_reducible exact span_order.mono _ _ _ _ _ _ _)
   | (with_reducible exact LeO.refl _)
   | (with_reducible exact LeO.none _)
   | (with_reducible refine LeO.ite ?_ ?_)
   | (with_reducible refine LeO.bind ?_ (fun _ => ?_))
   | exact ih0 _ _ _ _ _ _ _ _
   | exact ih1 _ _ _ _ _ _ _ _
   | exact ih2 _ _ _ _ _ _ _
   | exact ih3 _ _ _ _ _ _ _ _
   | exact alu_Holds.mono _ _ _ _ _
   | exact span_order.mono _ _ _ _ _ _ _
   | exact LeO.none _
   | refine LeO.ite ?_ ?_
   | refine LeO.bind ?_ (fun _ => ?_)
theorem span_narrow.mono : ∀ a0 a1 a2 a3 a4 a5 a6 k, LeO (span_narrow.f k a0 a1 a2 a3 a4 a5 a6) (span_narrow.f (k + 1) a0 a1 a2 a3 a4 a5 a6) := by
 intro a0 a1 a2 a3 a4 a5 a6 k
 obtain ⟨ih0, ih1, ih2, ih3⟩ := span_narrow.mono_l k
 unfold span_narrow.f
 repeat' first
   | (with_reducible exact ih0 _ _ _ _ _ _ _ _)
   | (with_reducible exact ih1 _ _ _ _ _ _ _ _)
   | (with_reducible exact ih2 _ _ _ _ _ _ _)
   | (with_reducible exact ih3 _ _ _ _ _ _ _ _)
   | (with_reducible exact alu_Holds.mono _ _ _ _ _)
   | (with_reducible exact span_order.mono _ _ _ _ _ _ _)
   | (with_reducible exact LeO.refl _)
   | (with_reducible exact LeO.none _)
   | (with_reducible refine LeO.ite ?_ ?_)
   | (with_reducible refine LeO.bind ?_ (fun _ => ?_))
   | exact ih0 _ _ _ _ _ _ _ _
   | exact ih1 _ _ _ _ _ _ _ _
   | exact ih2 _ _ _ _ _ _ _
   | exact ih3 _ _ _ _ _ _ _ _
   | exact alu_Holds.mono _ _ _ _ _
   | exact span_order.mono _ _ _ _ _ _ _
   | exact LeO.none _
   | refine LeO.ite ?_ ?_
   | refine LeO.bind ?_ (fun _ => ?_)
def span_narrow.T3 : Bool × List (List Nat × List Nat) := (true, [([], []), ([], []), ([], []), ([], []), ([2, 3], [2, 3]), ([0, 0], [0]), ([1, 5, 0, 1, 5], [1]), ([4, 6, 0, 1, 2, 3, 4, 5, 6], [4])])
def span_narrow.B3 : List Nat := [0, 0, 0, 0, 12, 1, 35, 127]
theorem span_narrow.tab3 : rtab .any (opsOf Try.f53 3) = span_narrow.T3 := by kernel_rfl
theorem span_narrow.bits3 : waitsOk span_narrow.T3.2 span_narrow.B3 = true := by kernel_rfl
set_option maxHeartbeats 8000000 in
set_option maxRecDepth 100000 in
theorem span_narrow.calls (k : Nat) (a0 : Int) (a1 : Bool) (a2 : Bool) (a3_0 : Int) (a3_1 : Int) (a4_0 : Int) (a4_1 : Int) (r1 : Int) (r2 : Int) (r3 : Int) (r4 : Int) (r5 : Bool) (w : World) (h : span_narrow.f k a0 a1 a2 a3_0 a3_1 a4_0 a4_1 = some (r1, r2, r3, r4, r5)) :
  Calls Try.prog 53 #[.int .i64 a0, .bool a1, .bool a2, .agg #[.int .u64 a3_0, .int .u64 a3_1], .agg #[.int .u64 a4_0, .int .u64 a4_1]] w fun e w' => e = .returned (.tuple #[.agg #[.int .u64 r1, .int .u64 r2], .agg #[.int .u64 r3, .int .u64 r4], .bool r5]) ∧ Below w.heap.size w w' := by
 have hu58 := Try.underlying58
 have HB := Aside0.mk (Below.refl w.heap.size w)
 have H : ((span_one.f a3_0 a3_1).bind fun t210 => (if t210 = true then ((span_one.f a4_0 a4_1).bind fun t211 => (span_narrow.j0 k a0 a1 a2 t211 a3_0 a3_1 a4_0 a4_1)) else (span_narrow.j0 k a0 a1 a2 false a3_0 a3_1 a4_0 a4_1))) = some (r1, r2, r3, r4, r5) := h
 clear h
 have HC6 := Aside0.mk H
 clear H
 go_enter Try.func53, Try.ntmps53
 go_upto_region 1 with (first | ((with_reducible refine gate_dst (N := 8) rfl ?_); refine box_event ?hg (N := 8) ?hd (cs := #[.int .u64 a3_0, .int .u64 a3_1]) (t := 58) ?hr ?_; (case hd => rfl); (case hg => rfl); (case hr => first | (go_simp; done) | (go_simp; rfl)); intro gb206 hg w7 hbox hb; have n0_ := Aside0.mk (below_step (by repeat (first | (with_reducible first | exact HB.out | apply lA | apply lN | apply lD) | exact HB.out)) hb); have n1_ := Aside0.mk (hbox); have n2_ := Aside0.mk ((by rw [hg]; exact (below_size (by repeat (first | (with_reducible first | exact HB.out | apply lA | apply lN | apply lD) | exact HB.out))) : w.heap.size ≤ gb206)); have n3_ := n2_; clear HB; have HB := n0_; have BK206 := n1_; have GW206 := n2_; have GE206 := n3_; clear n0_ n1_ n2_ n3_; clear hb hbox hg) | ((with_reducible refine gate_dst (N := 9) rfl ?_); refine box_event ?hg (N := 9) ?hd (cs := #[.int .u64 a4_0, .int .u64 a4_1]) (t := 58) ?hr ?_; (case hd => rfl); (case hg => rfl); (case hr => first | (go_simp; done) | (go_simp; rfl)); intro gb207 hg w8 hbox hb; have n0_ := Aside0.mk (blk_below (g := gb206) (o := .cells #[.int .u64 a3_0, .int .u64 a3_1] 58 (0, 0)) (by (with_reducible repeat (first | apply bN | apply bD | apply bA)); exact BK206.out) hb); have n1_ := Aside0.mk (below_step (by repeat (first | (with_reducible first | exact HB.out | apply lA | apply lN | apply lD | refine lS ?_ ‹_›) | exact HB.out)) hb); have n2_ := Aside0.mk (hbox); have n3_ := Aside0.mk ((by rw [hg]; exact (below_size (by repeat (first | (with_reducible first | exact HB.out | apply lA | apply lN | apply lD | refine lS ?_ ‹_›) | exact HB.out))) : w.heap.size ≤ gb207)); have n4_ := n3_; have n5_ := Aside0.mk ((by rw [hg]; exact Nat.ne_of_lt (blk_lt (g := gb206) (o := .cells #[.int .u64 a3_0, .int .u64 a3_1] 58 (0, 0)) (by (with_reducible repeat (first | apply bN | apply bD | apply bA)); exact BK206.out)) : gb206 ≠ gb207)); have n6_ := sy n5_; clear BK206; clear HB; have BK206 := n0_; have HB := n1_; have BK207 := n2_; have GW207 := n3_; have GE207 := n4_; have NB206_207 := n5_; have NB207_206 := n6_; clear n0_ n1_ n2_ n3_ n4_ n5_ n6_; clear hb hbox hg) | ((with_reducible refine gate_dst (N := 10) rfl ?_); refine box_event ?hg (N := 10) ?hd (cs := #[.int .u64 0, .int .u64 0]) (t := 58) ?hr ?_; (case hd => rfl); (case hg => rfl); (case hr => first | (go_simp; done) | (go_simp; rfl)); intro gb208 hg w9 hbox hb; have n0_ := Aside0.mk (blk_below (g := gb206) (o := .cells #[.int .u64 a3_0, .int .u64 a3_1] 58 (0, 0)) (by (with_reducible repeat (first | apply bN | apply bD | apply bA)); exact BK206.out) hb); have n1_ := Aside0.mk (blk_below (g := gb207) (o := .cells #[.int .u64 a4_0, .int .u64 a4_1] 58 (0, 0)) (by (with_reducible repeat (first | apply bN | apply bD | apply bA)); exact BK207.out) hb); have n2_ := Aside0.mk (below_step (by repeat (first | (with_reducible first | exact HB.out | apply lA | apply lN | apply lD | refine lS ?_ ‹_›) | exact HB.out)) hb); have n3_ := Aside0.mk (hbox); have n4_ := Aside0.mk ((by rw [hg]; exact (below_size (by repeat (first | (with_reducible first | exact HB.out | apply lA | apply lN | apply lD | refine lS ?_ ‹_›) | exact HB.out))) : w.heap.size ≤ gb208)); have n5_ := n4_; have n6_ := Aside0.mk ((by rw [hg]; exact Nat.ne_of_lt (blk_lt (g := gb206) (o := .cells #[.int .u64 a3_0, .int .u64 a3_1] 58 (0, 0)) (by (with_reducible repeat (first | apply bN | apply bD | apply bA)); exact BK206.out)) : gb206 ≠ gb208)); have n7_ := sy n6_; have n8_ := Aside0.mk ((by rw [hg]; exact Nat.ne_of_lt (blk_lt (g := gb207) (o := .cells #[.int .u64 a4_0, .int .u64 a4_1] 58 (0, 0)) (by (with_reducible repeat (first | apply bN | apply bD | apply bA)); exact BK207.out)) : gb207 ≠ gb208)); have n9_ := sy n8_; clear BK206; clear BK207; clear HB; have BK206 := n0_; have BK207 := n1_; have HB := n2_; have BK208 := n3_; have GW208 := n4_; have GE208 := n5_; have NB206_208 := n6_; have NB208_206 := n7_; have NB207_208 := n8_; have NB208_207 := n9_; clear n0_ n1_ n2_ n3_ n4_ n5_ n6_ n7_ n8_ n9_; clear hb hbox hg) | ((with_reducible refine gate_dst (N := 11) rfl ?_); refine box_event ?hg (N := 11) ?hd (cs := #[.int .u64 0, .int .u64 0]) (t := 58) ?hr ?_; (case hd => rfl); (case hg => rfl); (case hr => first | (go_simp; done) | (go_simp; rfl)); intro gb209 hg w10 hbox hb; have n0_ := Aside0.mk (blk_below (g := gb206) (o := .cells #[.int .u64 a3_0, .int .u64 a3_1] 58 (0, 0)) (by (with_reducible repeat (first | apply bN | apply bD | apply bA)); exact BK206.out) hb); have n1_ := Aside0.mk (blk_below (g := gb207) (o := .cells #[.int .u64 a4_0, .int .u64 a4_1] 58 (0, 0)) (by (with_reducible repeat (first | apply bN | apply bD | apply bA)); exact BK207.out) hb); have n2_ := Aside0.mk (blk_below (g := gb208) (o := .cells #[.int .u64 0, .int .u64 0] 58 (0, 0)) (by (with_reducible repeat (first | apply bN | apply bD | apply bA)); exact BK208.out) hb); have n3_ := Aside0.mk (below_step (by repeat (first | (with_reducible first | exact HB.out | apply lA | apply lN | apply lD | refine lS ?_ ‹_›) | exact HB.out)) hb); have n4_ := Aside0.mk (hbox); have n5_ := Aside0.mk ((by rw [hg]; exact (below_size (by repeat (first | (with_reducible first | exact HB.out | apply lA | apply lN | apply lD | refine lS ?_ ‹_›) | exact HB.out))) : w.heap.size ≤ gb209)); have n6_ := n5_; have n7_ := Aside0.mk ((by rw [hg]; exact Nat.ne_of_lt (blk_lt (g := gb206) (o := .cells #[.int .u64 a3_0, .int .u64 a3_1] 58 (0, 0)) (by (with_reducible repeat (first | apply bN | apply bD | apply bA)); exact BK206.out)) : gb206 ≠ gb209)); have n8_ := sy n7_; have n9_ := Aside0.mk ((by rw [hg]; exact Nat.ne_of_lt (blk_lt (g := gb207) (o := .cells #[.int .u64 a4_0, .int .u64 a4_1] 58 (0, 0)) (by (with_reducible repeat (first | apply bN | apply bD | apply bA)); exact BK207.out)) : gb207 ≠ gb209)); have n10_ := sy n9_; have n11_ := Aside0.mk ((by rw [hg]; exact Nat.ne_of_lt (blk_lt (g := gb208) (o := .cells #[.int .u64 0, .int .u64 0] 58 (0, 0)) (by (with_reducible repeat (first | apply bN | apply bD | apply bA)); exact BK208.out)) : gb208 ≠ gb209)); have n12_ := sy n11_; clear BK206; clear BK207; clear BK208; clear HB; have BK206 := n0_; have BK207 := n1_; have BK208 := n2_; have HB := n3_; have BK209 := n4_; have GW209 := n5_; have GE209 := n6_; have NB206_209 := n7_; have NB209_206 := n8_; have NB207_209 := n9_; have NB209_207 := n10_; have NB208_209 := n11_; have NB209_208 := n12_; clear n0_ n1_ n2_ n3_ n4_ n5_ n6_ n7_ n8_ n9_ n10_ n11_ n12_; clear hb hbox hg))
 (try simp only [Act.put, List.setIfInBounds_toArray, List.set_cons_zero, List.set_cons_succ])
 go_cut [21] (fun v21 wc => ∃ (kq : Nat) (x21_5 : Bool), v21 = .bool x21_5 ∧ Aside0 (span_narrow.j0 kq a0 a1 a2 x21_5 a3_0 a3_1 a4_0 a4_1 = some (r1, r2, r3, r4, r5)) ∧ Aside0 (kq ≤ k) ∧ Aside0 (wc.heap[gb206]? = some (.cells #[.int .u64 a3_0, .int .u64 a3_1] 58 (0, 0))) ∧ Aside0 (wc.heap[gb207]? = some (.cells #[.int .u64 a4_0, .int .u64 a4_1] 58 (0, 0))) ∧ Aside0 (wc.heap[gb208]? = some (.cells #[.int .u64 0, .int .u64 0] 58 (0, 0))) ∧ Aside0 (wc.heap[gb209]? = some (.cells #[.int .u64 0, .int .u64 0] 58 (0, 0))) ∧ Aside0 (Below w.heap.size w wc))
 case first =>
  have H := HC6.out
  clear HC6; replace H := Option.bind_eq_some_iff.mp H; obtain ⟨t210, A110, H⟩ := H
  replace H : (if t210 = true then ((span_one.f a4_0 a4_1).bind fun t211 => (span_narrow.j0 k a0 a1 a2 t211 a3_0 a3_1 a4_0 a4_1)) else (span_narrow.j0 k a0 a1 a2 false a3_0 a3_1 a4_0 a4_1)) = some (r1, r2, r3, r4, r5) := H
  have A11 := Aside0.mk A110; clear A110
  by_cases c12 : t210 = true
  ·
   subst c12
   have H1 : ((span_one.f a4_0 a4_1).bind fun t211 => (span_narrow.j0 k a0 a1 a2 t211 a3_0 a3_1 a4_0 a4_1)) = some (r1, r2, r3, r4, r5) := by rw [if_pos rfl] at H; exact H
   clear H; have H := H1; clear H1; replace H := Option.bind_eq_some_iff.mp H; obtain ⟨t211, A130, H⟩ := H
   replace H : (span_narrow.j0 k a0 a1 a2 t211 a3_0 a3_1 a4_0 a4_1) = some (r1, r2, r3, r4, r5) := H
   have A13 := Aside0.mk A130; clear A130
   have H' := Aside0.mk H
   clear H; have hnb14 := NB206_207.out; have hnc14 := NB207_206.out; have hnb15 := NB206_208.out; have hnc15 := NB208_206.out; have hnb16 := NB206_209.out; have hnc16 := NB209_206.out; have hcz17_0 : w10.cell? ⟨gb206, 0, none⟩ = some (.int .u64 a3_0) := (blk_cell BK206.out 0).trans rfl; have hcz17_1 : w10.cell? ⟨gb206, 1, none⟩ = some (.int .u64 a3_1) := (blk_cell BK206.out 1).trans rfl; have hfz17_0 := blk_frozen BK206.out 0; have hfz17_1 := blk_frozen BK206.out 1
   go_wp2_with (first | ((with_reducible refine gate_callee (f := 50) rfl ?_); refine goesL_ (some 17) rfl rfl Try.func50 (by kernel_rfl) rfl #[.agg #[.int .u64 a3_0, .int .u64 a3_1]] rfl (by (try simp only [List.map_toArray, List.map_cons, List.map_nil]); first | done | rfl | (simp only [List.length_drop, List.length_take]; rfl)) ?_; (with_reducible refine (span_one.calls a3_0 a3_1 true _ A11.out).mono ?_); rintro e w18 ⟨rfl, hb⟩; refine ⟨_, rfl, ?_⟩; have n0_ := Aside0.mk (blk_below (g := gb206) (o := .cells #[.int .u64 a3_0, .int .u64 a3_1] 58 (0, 0)) (by (with_reducible repeat (first | apply bN | apply bD | apply bA)); exact BK206.out) hb); have n1_ := Aside0.mk (blk_below (g := gb207) (o := .cells #[.int .u64 a4_0, .int .u64 a4_1] 58 (0, 0)) (by (with_reducible repeat (first | apply bN | apply bD | apply bA)); exact BK207.out) hb); have n2_ := Aside0.mk (blk_below (g := gb208) (o := .cells #[.int .u64 0, .int .u64 0] 58 (0, 0)) (by (with_reducible repeat (first | apply bN | apply bD | apply bA)); exact BK208.out) hb); have n3_ := Aside0.mk (blk_below (g := gb209) (o := .cells #[.int .u64 0, .int .u64 0] 58 (0, 0)) (by (with_reducible repeat (first | apply bN | apply bD | apply bA)); exact BK209.out) hb); have n4_ := Aside0.mk (below_step (by repeat (first | (with_reducible first | exact HB.out | apply lA | apply lN | apply lD | refine lS ?_ ‹_›) | exact HB.out)) hb); clear BK206; clear BK207; clear BK208; clear BK209; clear HB; have BK206 := n0_; have BK207 := n1_; have BK208 := n2_; have BK209 := n3_; have HB := n4_; clear n0_ n1_ n2_ n3_ n4_; (try clear hb); (try clear hb2); (try clear hk); (try clear hi); have hnb19 := NB207_208.out; have hnc19 := NB208_207.out; have hnb20 := NB207_209.out; have hnc20 := NB209_207.out; have hcz21_0 : w18.cell? ⟨gb207, 0, none⟩ = some (.int .u64 a4_0) := (blk_cell BK207.out 0).trans rfl; have hcz21_1 : w18.cell? ⟨gb207, 1, none⟩ = some (.int .u64 a4_1) := (blk_cell BK207.out 1).trans rfl; have hfz21_0 := blk_frozen BK207.out 0; have hfz21_1 := blk_frozen BK207.out 1) | (go_at_call 50; (with_reducible refine (span_one.calls a4_0 a4_1 t211 _ A13.out).mono ?_); rintro e w22 ⟨rfl, hb⟩; have n0_ := Aside0.mk (blk_below (g := gb206) (o := .cells #[.int .u64 a3_0, .int .u64 a3_1] 58 (0, 0)) (by (with_reducible repeat (first | apply bN | apply bD | apply bA)); exact BK206.out) hb); have n1_ := Aside0.mk (blk_below (g := gb207) (o := .cells #[.int .u64 a4_0, .int .u64 a4_1] 58 (0, 0)) (by (with_reducible repeat (first | apply bN | apply bD | apply bA)); exact BK207.out) hb); have n2_ := Aside0.mk (blk_below (g := gb208) (o := .cells #[.int .u64 0, .int .u64 0] 58 (0, 0)) (by (with_reducible repeat (first | apply bN | apply bD | apply bA)); exact BK208.out) hb); have n3_ := Aside0.mk (blk_below (g := gb209) (o := .cells #[.int .u64 0, .int .u64 0] 58 (0, 0)) (by (with_reducible repeat (first | apply bN | apply bD | apply bA)); exact BK209.out) hb); have n4_ := Aside0.mk (below_step (by repeat (first | (with_reducible first | exact HB.out | apply lA | apply lN | apply lD | refine lS ?_ ‹_›) | exact HB.out)) hb); clear BK206; clear BK207; clear BK208; clear BK209; clear HB; have BK206 := n0_; have BK207 := n1_; have BK208 := n2_; have BK209 := n3_; have HB := n4_; clear n0_ n1_ n2_ n3_ n4_; (try clear hb); (try clear hb2); (try clear hk); (try clear hi)))
   go_meet
   case rel => exact ⟨_, (t211), (by first | rfl | (simp; done) | (simp [*]; done)), H', ⟨by first | omega | exact Nat.le_refl _⟩, ⟨by (with_reducible repeat (first | apply bN | apply bD | apply bA)); exact BK206.out⟩, ⟨by (with_reducible repeat (first | apply bN | apply bD | apply bA)); exact BK207.out⟩, ⟨by (with_reducible repeat (first | apply bN | apply bD | apply bA)); exact BK208.out⟩, ⟨by (with_reducible repeat (first | apply bN | apply bD | apply bA)); exact BK209.out⟩, ⟨by repeat (first | (with_reducible first | exact HB.out | apply lA | apply lN | apply lD | refine lS ?_ ‹_›) | exact HB.out)⟩⟩
  ·
   replace c12 := Bool.eq_false_iff.mpr c12
   subst c12
   have H1 : (span_narrow.j0 k a0 a1 a2 false a3_0 a3_1 a4_0 a4_1) = some (r1, r2, r3, r4, r5) := by rw [if_neg (show ¬ (false = true) by decide)] at H; exact H
   clear H; have H := H1; clear H1
   have H' := Aside0.mk H
   clear H; have hnb23 := NB206_207.out; have hnc23 := NB207_206.out; have hnb24 := NB206_208.out; have hnc24 := NB208_206.out; have hnb25 := NB206_209.out; have hnc25 := NB209_206.out; have hcz26_0 : w10.cell? ⟨gb206, 0, none⟩ = some (.int .u64 a3_0) := (blk_cell BK206.out 0).trans rfl; have hcz26_1 : w10.cell? ⟨gb206, 1, none⟩ = some (.int .u64 a3_1) := (blk_cell BK206.out 1).trans rfl; have hfz26_0 := blk_frozen BK206.out 0; have hfz26_1 := blk_frozen BK206.out 1
   go_wp2_with (first | ((with_reducible refine gate_callee (f := 50) rfl ?_); refine goesL_ (some 17) rfl rfl Try.func50 (by kernel_rfl) rfl #[.agg #[.int .u64 a3_0, .int .u64 a3_1]] rfl (by (try simp only [List.map_toArray, List.map_cons, List.map_nil]); first | done | rfl | (simp only [List.length_drop, List.length_take]; rfl)) ?_; (with_reducible refine (span_one.calls a3_0 a3_1 false _ A11.out).mono ?_); rintro e w27 ⟨rfl, hb⟩; refine ⟨_, rfl, ?_⟩; have n0_ := Aside0.mk (blk_below (g := gb206) (o := .cells #[.int .u64 a3_0, .int .u64 a3_1] 58 (0, 0)) (by (with_reducible repeat (first | apply bN | apply bD | apply bA)); exact BK206.out) hb); have n1_ := Aside0.mk (blk_below (g := gb207) (o := .cells #[.int .u64 a4_0, .int .u64 a4_1] 58 (0, 0)) (by (with_reducible repeat (first | apply bN | apply bD | apply bA)); exact BK207.out) hb); have n2_ := Aside0.mk (blk_below (g := gb208) (o := .cells #[.int .u64 0, .int .u64 0] 58 (0, 0)) (by (with_reducible repeat (first | apply bN | apply bD | apply bA)); exact BK208.out) hb); have n3_ := Aside0.mk (blk_below (g := gb209) (o := .cells #[.int .u64 0, .int .u64 0] 58 (0, 0)) (by (with_reducible repeat (first | apply bN | apply bD | apply bA)); exact BK209.out) hb); have n4_ := Aside0.mk (below_step (by repeat (first | (with_reducible first | exact HB.out | apply lA | apply lN | apply lD | refine lS ?_ ‹_›) | exact HB.out)) hb); clear BK206; clear BK207; clear BK208; clear BK209; clear HB; have BK206 := n0_; have BK207 := n1_; have BK208 := n2_; have BK209 := n3_; have HB := n4_; clear n0_ n1_ n2_ n3_ n4_; (try clear hb); (try clear hb2); (try clear hk); (try clear hi)))
   go_meet
   case rel => exact ⟨_, (false), (by first | rfl | (simp; done) | (simp [*]; done)), H', ⟨by first | omega | exact Nat.le_refl _⟩, ⟨by (with_reducible repeat (first | apply bN | apply bD | apply bA)); exact BK206.out⟩, ⟨by (with_reducible repeat (first | apply bN | apply bD | apply bA)); exact BK207.out⟩, ⟨by (with_reducible repeat (first | apply bN | apply bD | apply bA)); exact BK208.out⟩, ⟨by (with_reducible repeat (first | apply bN | apply bD | apply bA)); exact BK209.out⟩, ⟨by repeat (first | (with_reducible first | exact HB.out | apply lA | apply lN | apply lD | refine lS ?_ ‹_›) | exact HB.out)⟩⟩
 case rest =>
  clear HC6
  try clear c1
  try clear c2
  try clear p2
  try clear c5
  try clear c12
  try clear c14
  try clear c15
  try clear c16
  try clear c19
  try clear c20
  try clear c23
  try clear c24
  try clear c25
  try clear hcz17_0
  try clear hcz17_1
  try clear hcz21_0
  try clear hcz21_1
  try clear hcz26_0
  try clear hcz26_1
  try clear hfz17_0
  try clear hfz17_1
  try clear hfz21_0
  try clear hfz21_1
  try clear hfz26_0
  try clear hfz26_1
  obtain ⟨kq, x21_5, rfl, HA, HJ5, BK206, BK207, BK208, BK209, HB⟩ := hcut
  cases kq with
  | zero => exact absurd HA.out (by simp [span_narrow.j0])
  | succ kj5 =>
   have H := HA.out
   clear HA
   simp only [span_narrow.j0] at H
   by_cases c28 : x21_5 = true
   ·
    subst c28
    have H1 : ((alu_Holds.f kj5 a0 a1 a3_0 a4_0).bind fun bt212 => (some (a3_0, a3_1, a4_0, a4_1, (bt212.1 == a2)))) = some (r1, r2, r3, r4, r5) := by rw [if_pos rfl] at H; exact H
    clear H; have H := H1; clear H1; replace H := Option.bind_eq_some_iff.mp H; obtain ⟨⟨t212, t213⟩, A290, H⟩ := H
    replace H : (some (a3_0, a3_1, a4_0, a4_1, (t212 == a2))) = some (r1, r2, r3, r4, r5) := H
    have A29 := Aside0.mk A290; clear A290; simp only [Option.some.injEq, Prod.mk.injEq] at H; obtain ⟨rfl, rfl, rfl, rfl, rfl⟩ := H; have hnb30 := NB206_207.out; have hnc30 := NB207_206.out; have hnb31 := NB206_208.out; have hnc31 := NB208_206.out; have hnb32 := NB206_209.out; have hnc32 := NB209_206.out; have hcz33_0 : wc.cell? ⟨gb206, 0, none⟩ = some (.int .u64 a3_0) := (blk_cell BK206.out 0).trans rfl; have hcz33_1 : wc.cell? ⟨gb206, 1, none⟩ = some (.int .u64 a3_1) := (blk_cell BK206.out 1).trans rfl; have hfz33_0 := blk_frozen BK206.out 0; have hfz33_1 := blk_frozen BK206.out 1; have hnb34 := NB207_208.out; have hnc34 := NB208_207.out; have hnb35 := NB207_209.out; have hnc35 := NB209_207.out; have hcz36_0 : wc.cell? ⟨gb207, 0, none⟩ = some (.int .u64 a4_0) := (blk_cell BK207.out 0).trans rfl; have hcz36_1 : wc.cell? ⟨gb207, 1, none⟩ = some (.int .u64 a4_1) := (blk_cell BK207.out 1).trans rfl; have hfz36_0 := blk_frozen BK207.out 0; have hfz36_1 := blk_frozen BK207.out 1
    try go_wp2_with (first | ((with_reducible refine gate_callee (f := 52) rfl ?_); refine goesL_ (some 29) rfl rfl Try.func52 (by kernel_rfl) rfl #[.int .i64 a0, .bool a1, .int .u64 a3_0, .int .u64 a4_0] rfl (by (try simp only [List.map_toArray, List.map_cons, List.map_nil]); first | done | rfl | (simp only [List.length_drop, List.length_take]; rfl)) ?_; (with_reducible refine (alu_Holds.calls kj5 a0 a1 a3_0 a4_0 t212 t213 _ A29.out).mono ?_); rintro e w' ⟨rfl, ⟨nd, rfl⟩⟩; refine ⟨_, rfl, ?_⟩; (try (rw [drewN_self wc]; generalize hq_ : World.drewN wc _ = wc; have n0_ : Aside0 (wc.heap[gb206]? = some (.cells #[.int .u64 a3_0, .int .u64 a3_1] 58 (0, 0))) := ⟨by rw [← hq_]; exact (by (with_reducible repeat (first | apply bN | apply bD | apply bA)); exact BK206.out)⟩; have n1_ : Aside0 (wc.heap[gb207]? = some (.cells #[.int .u64 a4_0, .int .u64 a4_1] 58 (0, 0))) := ⟨by rw [← hq_]; exact (by (with_reducible repeat (first | apply bN | apply bD | apply bA)); exact BK207.out)⟩; have n2_ : Aside0 (wc.heap[gb208]? = some (.cells #[.int .u64 0, .int .u64 0] 58 (0, 0))) := ⟨by rw [← hq_]; exact (by (with_reducible repeat (first | apply bN | apply bD | apply bA)); exact BK208.out)⟩; have n3_ : Aside0 (wc.heap[gb209]? = some (.cells #[.int .u64 0, .int .u64 0] 58 (0, 0))) := ⟨by rw [← hq_]; exact (by (with_reducible repeat (first | apply bN | apply bD | apply bA)); exact BK209.out)⟩; have n4_ : Aside0 (Below w.heap.size w wc) := ⟨by rw [← hq_]; exact (by repeat (first | (with_reducible first | exact HB.out | apply lA | apply lN | apply lD | refine lS ?_ ‹_›) | exact HB.out))⟩; clear BK206 BK207 BK208 BK209 HB hq_; have BK206 := n0_; have BK207 := n1_; have BK208 := n2_; have BK209 := n3_; have HB := n4_; clear n0_ n1_ n2_ n3_ n4_)); have hcz33_0 : wc.cell? ⟨gb206, 0, none⟩ = some (.int .u64 a3_0) := (blk_cell BK206.out 0).trans rfl; have hcz33_1 : wc.cell? ⟨gb206, 1, none⟩ = some (.int .u64 a3_1) := (blk_cell BK206.out 1).trans rfl; have hfz33_0 := blk_frozen BK206.out 0; have hfz33_1 := blk_frozen BK206.out 1; have hcz36_0 : wc.cell? ⟨gb207, 0, none⟩ = some (.int .u64 a4_0) := (blk_cell BK207.out 0).trans rfl; have hcz36_1 : wc.cell? ⟨gb207, 1, none⟩ = some (.int .u64 a4_1) := (blk_cell BK207.out 1).trans rfl; have hfz36_0 := blk_frozen BK207.out 0; have hfz36_1 := blk_frozen BK207.out 1))
    have n0_ := Aside0.mk (blk_drew BK206.out); have n1_ := Aside0.mk (blk_drew BK207.out); have n2_ := Aside0.mk (blk_drew BK208.out); have n3_ := Aside0.mk (blk_drew BK209.out)
    have n4_ := Aside0.mk (below_drew1 HB.out)
    clear BK206; clear BK207; clear BK208; clear BK209; clear HB; have BK206 := n0_; have BK207 := n1_; have BK208 := n2_; have BK209 := n3_; have HB := n4_; clear n0_ n1_ n2_ n3_ n4_
    refine start_ (n := 8) (S := fun w' => w'.cell? ⟨gb206, 0, none⟩ = some (.int .u64 a3_0) ∧ w'.cell? ⟨gb206, 1, none⟩ = some (.int .u64 a3_1) ∧ w'.cell? ⟨gb207, 0, none⟩ = some (.int .u64 a4_0) ∧ w'.cell? ⟨gb207, 1, none⟩ = some (.int .u64 a4_1)) (ds := []) #[false, false, false, false, false, false, false, false] (by kernel_rfl) rfl rfl ⟨(blk_cell BK206.out 0).trans rfl, (blk_cell BK206.out 1).trans rfl, (blk_cell BK207.out 0).trans rfl, (blk_cell BK207.out 1).trans rfl⟩ (fun hHeld => ?_); refine with_tabW span_narrow.tab3 span_narrow.bits3 (fun HT_ HW_ => ?_)
    generalize wc.drew = w37 at BK206 BK207 BK208 BK209 HB hHeld ⊢
    refine pure_ (i := 2) (N := some 34) (v := ?_) (a' := ?_) #[false, false, true, false, false, false, false, false] rfl rfl (any_of HT_.out (by kernel_rfl)) (fun _ _ _ h => h) (Or.inl ⟨by rfl, ?_⟩) ?_ ?_
    rotate_left
    ·
     intro w'
     go_simp; with_reducible rfl
    rotate_left
    ·
     simp only [Act.put, List.setIfInBounds_toArray, List.set_cons_zero, List.set_cons_succ, i64_w, i32_w]
     rfl
    refine pure_ (i := 3) (N := some 35) (v := ?_) (a' := ?_) #[false, false, true, true, false, false, false, false] rfl rfl (any_of HT_.out (by kernel_rfl)) (fun _ _ _ h => h) (Or.inl ⟨by rfl, ?_⟩) ?_ ?_
    rotate_left
    ·
     intro w'
     go_simp; with_reducible rfl
    rotate_left
    ·
     simp only [Act.put, List.setIfInBounds_toArray, List.set_cons_zero, List.set_cons_succ, i64_w, i32_w]
     rfl
    refine pure_ (i := 4) (N := some 36) (v := ?_) (a' := ?_) #[false, false, true, true, true, false, false, false] rfl rfl (any_of HT_.out (by kernel_rfl)) (fun _ _ _ h => h) (Or.inl ⟨by rfl, ?_⟩) ?_ ?_
    rotate_left
    ·
     intro w'
     go_simp; with_reducible rfl
    rotate_left
    ·
     simp only [Act.put, List.setIfInBounds_toArray, List.set_cons_zero, List.set_cons_succ, i64_w, i32_w]
     rfl
    refine take_ (i := 0) (N := some 32) (v := ?_) (a' := ?_) #[true, false, true, true, true, false, false, false] rfl rfl (take_ofW HT_.out HW_.out (by kernel_rfl)) (fun _ _ _ h => h) (Or.inl ⟨by rfl, ?_⟩) hHeld ?_ ?_
    rotate_left
    ·
     rintro w' ⟨s0, s1, s2, s3⟩
     go_simp; with_reducible rfl
    rotate_left
    ·
     simp only [Act.put, List.setIfInBounds_toArray, List.set_cons_zero, List.set_cons_succ, i64_w, i32_w]
     rfl
    refine take_ (i := 1) (N := some 33) (v := ?_) (a' := ?_) #[true, true, true, true, true, false, false, false] rfl rfl (take_ofW HT_.out HW_.out (by kernel_rfl)) (fun _ _ _ h => h) (Or.inl ⟨by rfl, ?_⟩) hHeld ?_ ?_
    rotate_left
    ·
     rintro w' ⟨s0, s1, s2, s3⟩
     go_simp; with_reducible rfl
    rotate_left
    ·
     simp only [Act.put, List.setIfInBounds_toArray, List.set_cons_zero, List.set_cons_succ, i64_w, i32_w]
     rfl
    refine one_ (i := 5) (N := none) #[true, true, true, true, true, true, false, false] rfl rfl (one_of HT_.out (by kernel_rfl)) (by decide) (fun K hK => ?_)
    have hs38 : w37.cell? ⟨gb208, 0, none⟩ = some (.int .u64 0) := (blk_cell BK208.out 0).trans rfl
    have hfs38 := blk_frozen BK208.out 0
    have hns38_0 := NB206_208.out
    have hns38_1 := NB207_208.out
    have hns38_3 := NB209_208.out
    have hms38_0 := NB208_206.out
    have hms38_1 := NB208_207.out
    have hms38_3 := NB208_209.out
    have hs39 : w37.cell? ⟨gb208, 1, none⟩ = some (.int .u64 0) := (blk_cell BK208.out 1).trans rfl
    have hfs39 := blk_frozen BK208.out 1
    have hns39_0 := NB206_208.out
    have hns39_1 := NB207_208.out
    have hns39_3 := NB209_208.out
    have hms39_0 := NB208_206.out
    have hms39_1 := NB208_207.out
    have hms39_3 := NB208_209.out
    refine skip_ (w1 := ?_) (by rfl) rfl ?_ ?_
    rotate_left
    ·
     go_simp
     rfl
    refine hK.out _ _ ⟨((cell_far (p := ⟨gb208, _, none⟩) NB206_208.out _).trans (((cell_far (p := ⟨gb208, _, none⟩) NB206_208.out _).trans (hHeld.1)))), ((cell_far (p := ⟨gb208, _, none⟩) NB206_208.out _).trans (((cell_far (p := ⟨gb208, _, none⟩) NB206_208.out _).trans (hHeld.2.1)))), ((cell_far (p := ⟨gb208, _, none⟩) NB207_208.out _).trans (((cell_far (p := ⟨gb208, _, none⟩) NB207_208.out _).trans (hHeld.2.2.1)))), ((cell_far (p := ⟨gb208, _, none⟩) NB207_208.out _).trans (((cell_far (p := ⟨gb208, _, none⟩) NB207_208.out _).trans (hHeld.2.2.2))))⟩ (fun hHeld => ?_)
    clear hK K
    refine one_ (i := 6) (N := none) #[true, true, true, true, true, true, true, false] rfl rfl (one_of HT_.out (by kernel_rfl)) (by decide) (fun K hK => ?_)
    have hs40 : w37.cell? ⟨gb209, 0, none⟩ = some (.int .u64 0) := (blk_cell BK209.out 0).trans rfl
    have hfs40 := blk_frozen BK209.out 0
    have hns40_0 := NB206_209.out
    have hns40_1 := NB207_209.out
    have hns40_2 := NB208_209.out
    have hms40_0 := NB209_206.out
    have hms40_1 := NB209_207.out
    have hms40_2 := NB209_208.out
    have hs41 : w37.cell? ⟨gb209, 1, none⟩ = some (.int .u64 0) := (blk_cell BK209.out 1).trans rfl
    have hfs41 := blk_frozen BK209.out 1
    have hns41_0 := NB206_209.out
    have hns41_1 := NB207_209.out
    have hns41_2 := NB208_209.out
    have hms41_0 := NB209_206.out
    have hms41_1 := NB209_207.out
    have hms41_2 := NB209_208.out
    refine skip_ (w1 := ?_) (by rfl) rfl ?_ ?_
    rotate_left
    ·
     go_simp
     rfl
    refine hK.out _ _ ⟨((cell_far (p := ⟨gb209, _, none⟩) NB206_209.out _).trans (((cell_far (p := ⟨gb209, _, none⟩) NB206_209.out _).trans (hHeld.1)))), ((cell_far (p := ⟨gb209, _, none⟩) NB206_209.out _).trans (((cell_far (p := ⟨gb209, _, none⟩) NB206_209.out _).trans (hHeld.2.1)))), ((cell_far (p := ⟨gb209, _, none⟩) NB207_209.out _).trans (((cell_far (p := ⟨gb209, _, none⟩) NB207_209.out _).trans (hHeld.2.2.1)))), ((cell_far (p := ⟨gb209, _, none⟩) NB207_209.out _).trans (((cell_far (p := ⟨gb209, _, none⟩) NB207_209.out _).trans (hHeld.2.2.2))))⟩ (fun hHeld => ?_)
    clear hK K
    refine pure_ (i := 7) (N := some 12) (v := ?_) (a' := ?_) #[true, true, true, true, true, true, true, true] rfl rfl (any_of HT_.out (by kernel_rfl)) (fun _ _ _ h => h) (Or.inl ⟨by rfl, ?_⟩) ?_ ?_
    rotate_left
    ·
     intro w'
     go_simp; with_reducible rfl
    rotate_left
    ·
     simp only [Act.put, List.setIfInBounds_toArray, List.set_cons_zero, List.set_cons_succ, i64_w, i32_w]
     rfl
    refine done_ (done_of HT_.out (by kernel_rfl)) ?_
    try go_wp2
    refine bodyPost_ret (results_list (rs := [.cell 10 58, .cell 11 58, .tmp 12]) rfl (by simp) (.cell gb208 58 #[.int .u64 a3_0, .int .u64 a3_1] (0, 0) _ rfl (by (with_reducible repeat (first | apply bN | apply bD | apply bA)); refine blk_far ?_ NB208_209.out _; (with_reducible repeat (first | apply bN | apply bD | apply bA)); refine blk_far ?_ NB208_209.out _; (with_reducible repeat (first | apply bN | apply bD | apply bA)); refine blk_put (cs := #[.int .u64 a3_0, .int .u64 0]) ?_ 1 _ rfl; (with_reducible repeat (first | apply bN | apply bD | apply bA)); refine blk_put (cs := #[.int .u64 0, .int .u64 0]) ?_ 0 _ rfl; (with_reducible repeat (first | apply bN | apply bD | apply bA)); exact BK208.out) Try.underlying58 rfl (by kernel_rfl) (.cell gb209 58 #[.int .u64 a4_0, .int .u64 a4_1] (0, 0) _ rfl (by (with_reducible repeat (first | apply bN | apply bD | apply bA)); refine blk_put (cs := #[.int .u64 a4_0, .int .u64 0]) ?_ 1 _ rfl; (with_reducible repeat (first | apply bN | apply bD | apply bA)); refine blk_put (cs := #[.int .u64 0, .int .u64 0]) ?_ 0 _ rfl; (with_reducible repeat (first | apply bN | apply bD | apply bA)); refine blk_far ?_ NB209_208.out _; (with_reducible repeat (first | apply bN | apply bD | apply bA)); refine blk_far ?_ NB209_208.out _; (with_reducible repeat (first | apply bN | apply bD | apply bA)); exact BK209.out) Try.underlying58 rfl (by kernel_rfl) (.tmp .nil)))) rfl ?_
    exact ⟨by first | rfl | (simp [errW_none, errW_some] <;> rfl) | (simp [*, errW_none, errW_some] <;> rfl), by repeat (first | (with_reducible first | exact HB.out | apply lA | apply lN | apply lD | refine lS ?_ ‹_›) | exact HB.out)⟩
   ·
    replace c28 := Bool.eq_false_iff.mpr c28
    subst c28
    have H1 : (if a1 = true then (span_narrow.j1 kj5 a0 a1 a2 false a3_0 a3_1 a4_0 a4_1) else (span_narrow.j1 kj5 a0 a1 a2 (((Go.bits .or .u64 a3_1 a4_1) / 4294967296) != 0) a3_0 a3_1 a4_0 a4_1)) = some (r1, r2, r3, r4, r5) := by rw [if_neg (show ¬ (false = true) by decide)] at H; exact H
    clear H; have H := H1; clear H1
    have HC42 := Aside0.mk H
    clear H
    go_upto_region 4 with (fail)
    go_cut [47] (fun v47 wc => ∃ (kq : Nat) (x47_41 : Bool), v47 = .bool x47_41 ∧ Aside0 (span_narrow.j1 kq a0 a1 a2 x47_41 a3_0 a3_1 a4_0 a4_1 = some (r1, r2, r3, r4, r5)) ∧ Aside0 (kq ≤ kj5) ∧ Aside0 (wc.heap[gb206]? = some (.cells #[.int .u64 a3_0, .int .u64 a3_1] 58 (0, 0))) ∧ Aside0 (wc.heap[gb207]? = some (.cells #[.int .u64 a4_0, .int .u64 a4_1] 58 (0, 0))) ∧ Aside0 (wc.heap[gb208]? = some (.cells #[.int .u64 0, .int .u64 0] 58 (0, 0))) ∧ Aside0 (wc.heap[gb209]? = some (.cells #[.int .u64 0, .int .u64 0] 58 (0, 0))) ∧ Aside0 (Below w.heap.size w wc))
    case first =>
     have H := HC42.out
     clear HC42
     by_cases c43 : a1 = true
     ·
      subst c43
      have H1 : (span_narrow.j1 kj5 a0 true a2 false a3_0 a3_1 a4_0 a4_1) = some (r1, r2, r3, r4, r5) := by rw [if_pos rfl] at H; exact H
      clear H; have H := H1; clear H1
      have H' := Aside0.mk H
      clear H
      go_wp2
      go_meet
      case rel => exact ⟨_, (false), (by first | rfl | (simp; done) | (simp [*]; done)), H', ⟨by have := HJ5.out; first | omega | exact Nat.le_refl _⟩, ⟨by (with_reducible repeat (first | apply bN | apply bD | apply bA)); exact BK206.out⟩, ⟨by (with_reducible repeat (first | apply bN | apply bD | apply bA)); exact BK207.out⟩, ⟨by (with_reducible repeat (first | apply bN | apply bD | apply bA)); exact BK208.out⟩, ⟨by (with_reducible repeat (first | apply bN | apply bD | apply bA)); exact BK209.out⟩, ⟨by repeat (first | (with_reducible first | exact HB.out | apply lA | apply lN | apply lD | refine lS ?_ ‹_›) | exact HB.out)⟩⟩
     ·
      replace c43 := Bool.eq_false_iff.mpr c43
      subst c43
      have H1 : (span_narrow.j1 kj5 a0 false a2 (((Go.bits .or .u64 a3_1 a4_1) / 4294967296) != 0) a3_0 a3_1 a4_0 a4_1) = some (r1, r2, r3, r4, r5) := by rw [if_neg (show ¬ (false = true) by decide)] at H; exact H
      clear H; have H := H1; clear H1
      have H' := Aside0.mk H
      clear H; have hnb44 := NB206_207.out; have hnc44 := NB207_206.out; have hnb45 := NB206_208.out; have hnc45 := NB208_206.out; have hnb46 := NB206_209.out; have hnc46 := NB209_206.out; have hcz47_0 : wc.cell? ⟨gb206, 0, none⟩ = some (.int .u64 a3_0) := (blk_cell BK206.out 0).trans rfl; have hcz47_1 : wc.cell? ⟨gb206, 1, none⟩ = some (.int .u64 a3_1) := (blk_cell BK206.out 1).trans rfl; have hfz47_0 := blk_frozen BK206.out 0; have hfz47_1 := blk_frozen BK206.out 1; have hnb48 := NB207_208.out; have hnc48 := NB208_207.out; have hnb49 := NB207_209.out; have hnc49 := NB209_207.out; have hcz50_0 : wc.cell? ⟨gb207, 0, none⟩ = some (.int .u64 a4_0) := (blk_cell BK207.out 0).trans rfl; have hcz50_1 : wc.cell? ⟨gb207, 1, none⟩ = some (.int .u64 a4_1) := (blk_cell BK207.out 1).trans rfl; have hfz50_0 := blk_frozen BK207.out 0; have hfz50_1 := blk_frozen BK207.out 1
      go_wp2
      go_meet
      case rel => exact ⟨_, ((((Go.bits .or .u64 a3_1 a4_1) / 4294967296) != 0)), (by first | rfl | (simp; done) | (simp [*]; done)), H', ⟨by have := HJ5.out; first | omega | exact Nat.le_refl _⟩, ⟨by (with_reducible repeat (first | apply bN | apply bD | apply bA)); exact BK206.out⟩, ⟨by (with_reducible repeat (first | apply bN | apply bD | apply bA)); exact BK207.out⟩, ⟨by (with_reducible repeat (first | apply bN | apply bD | apply bA)); exact BK208.out⟩, ⟨by (with_reducible repeat (first | apply bN | apply bD | apply bA)); exact BK209.out⟩, ⟨by repeat (first | (with_reducible first | exact HB.out | apply lA | apply lN | apply lD | refine lS ?_ ‹_›) | exact HB.out)⟩⟩
    case rest =>
     clear HC42
     try clear c1
     try clear c2
     try clear p2
     try clear c3
     try clear c4
     try clear c5
     try clear c12
     try clear c14
     try clear c15
     try clear c16
     try clear c19
     try clear c20
     try clear c23
     try clear c24
     try clear c25
     try clear c28
     try clear c30
     try clear c31
     try clear c32
     try clear c34
     try clear c35
     try clear c43
     try clear c44
     try clear c45
     try clear c46
     try clear c48
     try clear c49
     try clear c50
     try clear hcz17_0
     try clear hcz17_1
     try clear hcz21_0
     try clear hcz21_1
     try clear hcz26_0
     try clear hcz26_1
     try clear hcz33_0
     try clear hcz33_1
     try clear hcz36_0
     try clear hcz36_1
     try clear hcz47_0
     try clear hcz47_1
     try clear hcz50_0
     try clear hcz50_1
     try clear hfz17_0
     try clear hfz17_1
     try clear hfz21_0
     try clear hfz21_1
     try clear hfz26_0
     try clear hfz26_1
     try clear hfz33_0
     try clear hfz33_1
     try clear hfz36_0
     try clear hfz36_1
     try clear hfz47_0
     try clear hfz47_1
     try clear hfz50_0
     try clear hfz50_1
     try clear p2
     obtain ⟨kq, x47_41, rfl, HA, HJ41, BK206, BK207, BK208, BK209, HB⟩ := hcut
     cases kq with
     | zero => exact absurd HA.out (by simp [span_narrow.j1])
     | succ kj41 =>
      have H := HA.out
      clear HA
      simp only [span_narrow.j1] at H
      by_cases c51 : x47_41 = true
      ·
       subst c51
       have H1 : (some (a3_0, a3_1, a4_0, a4_1, true)) = some (r1, r2, r3, r4, r5) := by rw [if_pos rfl] at H; exact H
       clear H; have H := H1; clear H1; simp only [Option.some.injEq, Prod.mk.injEq] at H; obtain ⟨rfl, rfl, rfl, rfl, rfl⟩ := H
       try go_wp2
       have n0_ := Aside0.mk (blk_drew BK206.out); have n1_ := Aside0.mk (blk_drew BK207.out); have n2_ := Aside0.mk (blk_drew BK208.out); have n3_ := Aside0.mk (blk_drew BK209.out)
       have n4_ := Aside0.mk (below_drew1 HB.out)
       clear BK206; clear BK207; clear BK208; clear BK209; clear HB; have BK206 := n0_; have BK207 := n1_; have BK208 := n2_; have BK209 := n3_; have HB := n4_; clear n0_ n1_ n2_ n3_ n4_
       refine start_ (n := 5) (S := fun w' => w'.cell? ⟨gb206, 0, none⟩ = some (.int .u64 a3_0) ∧ w'.cell? ⟨gb206, 1, none⟩ = some (.int .u64 a3_1) ∧ w'.cell? ⟨gb207, 0, none⟩ = some (.int .u64 a4_0) ∧ w'.cell? ⟨gb207, 1, none⟩ = some (.int .u64 a4_1)) (ds := []) #[false, false, false, false, false] (by kernel_rfl) rfl rfl ⟨(blk_cell BK206.out 0).trans rfl, (blk_cell BK206.out 1).trans rfl, (blk_cell BK207.out 0).trans rfl, (blk_cell BK207.out 1).trans rfl⟩ (fun hHeld => ?_)
       generalize wc.drew = w52 at BK206 BK207 BK208 BK209 HB hHeld ⊢
       refine take_ (i := 0) (N := some 48) (v := ?_) (a' := ?_) #[true, false, false, false, false] rfl rfl (by kernel_rfl) (fun _ _ _ h => h) (Or.inl ⟨by rfl, ?_⟩) hHeld ?_ ?_
       rotate_left
       ·
        rintro w' ⟨s0, s1, s2, s3⟩
        go_simp; with_reducible rfl
       rotate_left
       ·
        simp only [Act.put, List.setIfInBounds_toArray, List.set_cons_zero, List.set_cons_succ, i64_w, i32_w]
        rfl
       refine take_ (i := 1) (N := some 49) (v := ?_) (a' := ?_) #[true, true, false, false, false] rfl rfl (by kernel_rfl) (fun _ _ _ h => h) (Or.inl ⟨by rfl, ?_⟩) hHeld ?_ ?_
       rotate_left
       ·
        rintro w' ⟨s0, s1, s2, s3⟩
        go_simp; with_reducible rfl
       rotate_left
       ·
        simp only [Act.put, List.setIfInBounds_toArray, List.set_cons_zero, List.set_cons_succ, i64_w, i32_w]
        rfl
       refine one_ (i := 2) (N := none) #[true, true, true, false, false] rfl rfl (by kernel_rfl) (by decide) (fun K hK => ?_)
       have hs53 : w52.cell? ⟨gb208, 0, none⟩ = some (.int .u64 0) := (blk_cell BK208.out 0).trans rfl
       have hfs53 := blk_frozen BK208.out 0
       have hns53_0 := NB206_208.out
       have hns53_1 := NB207_208.out
       have hns53_3 := NB209_208.out
       have hms53_0 := NB208_206.out
       have hms53_1 := NB208_207.out
       have hms53_3 := NB208_209.out
       have hs54 : w52.cell? ⟨gb208, 1, none⟩ = some (.int .u64 0) := (blk_cell BK208.out 1).trans rfl
       have hfs54 := blk_frozen BK208.out 1
       have hns54_0 := NB206_208.out
       have hns54_1 := NB207_208.out
       have hns54_3 := NB209_208.out
       have hms54_0 := NB208_206.out
       have hms54_1 := NB208_207.out
       have hms54_3 := NB208_209.out
       refine skip_ (w1 := ?_) (by rfl) rfl ?_ ?_
       rotate_left
       ·
        go_simp
        rfl
       refine hK.out _ _ ⟨((cell_far (p := ⟨gb208, _, none⟩) NB206_208.out _).trans (((cell_far (p := ⟨gb208, _, none⟩) NB206_208.out _).trans (hHeld.1)))), ((cell_far (p := ⟨gb208, _, none⟩) NB206_208.out _).trans (((cell_far (p := ⟨gb208, _, none⟩) NB206_208.out _).trans (hHeld.2.1)))), ((cell_far (p := ⟨gb208, _, none⟩) NB207_208.out _).trans (((cell_far (p := ⟨gb208, _, none⟩) NB207_208.out _).trans (hHeld.2.2.1)))), ((cell_far (p := ⟨gb208, _, none⟩) NB207_208.out _).trans (((cell_far (p := ⟨gb208, _, none⟩) NB207_208.out _).trans (hHeld.2.2.2))))⟩ (fun hHeld => ?_)
       clear hK K
       refine one_ (i := 3) (N := none) #[true, true, true, true, false] rfl rfl (by kernel_rfl) (by decide) (fun K hK => ?_)
       have hs55 : w52.cell? ⟨gb209, 0, none⟩ = some (.int .u64 0) := (blk_cell BK209.out 0).trans rfl
       have hfs55 := blk_frozen BK209.out 0
       have hns55_0 := NB206_209.out
       have hns55_1 := NB207_209.out
       have hns55_2 := NB208_209.out
       have hms55_0 := NB209_206.out
       have hms55_1 := NB209_207.out
       have hms55_2 := NB209_208.out
       have hs56 : w52.cell? ⟨gb209, 1, none⟩ = some (.int .u64 0) := (blk_cell BK209.out 1).trans rfl
       have hfs56 := blk_frozen BK209.out 1
       have hns56_0 := NB206_209.out
       have hns56_1 := NB207_209.out
       have hns56_2 := NB208_209.out
       have hms56_0 := NB209_206.out
       have hms56_1 := NB209_207.out
       have hms56_2 := NB209_208.out
       refine skip_ (w1 := ?_) (by rfl) rfl ?_ ?_
       rotate_left
       ·
        go_simp
        rfl
       refine hK.out _ _ ⟨((cell_far (p := ⟨gb209, _, none⟩) NB206_209.out _).trans (((cell_far (p := ⟨gb209, _, none⟩) NB206_209.out _).trans (hHeld.1)))), ((cell_far (p := ⟨gb209, _, none⟩) NB206_209.out _).trans (((cell_far (p := ⟨gb209, _, none⟩) NB206_209.out _).trans (hHeld.2.1)))), ((cell_far (p := ⟨gb209, _, none⟩) NB207_209.out _).trans (((cell_far (p := ⟨gb209, _, none⟩) NB207_209.out _).trans (hHeld.2.2.1)))), ((cell_far (p := ⟨gb209, _, none⟩) NB207_209.out _).trans (((cell_far (p := ⟨gb209, _, none⟩) NB207_209.out _).trans (hHeld.2.2.2))))⟩ (fun hHeld => ?_)
       clear hK K
       refine pure_ (i := 4) (N := some 12) (v := ?_) (a' := ?_) #[true, true, true, true, true] rfl rfl (by kernel_rfl) (fun _ _ _ h => h) (Or.inl ⟨by rfl, ?_⟩) ?_ ?_
       rotate_left
       ·
        intro w'
        go_simp; with_reducible rfl
       rotate_left
       ·
        simp only [Act.put, List.setIfInBounds_toArray, List.set_cons_zero, List.set_cons_succ, i64_w, i32_w]
        rfl
       refine done_ (by kernel_rfl) ?_
       try go_wp2
       refine bodyPost_ret (results_list (rs := [.cell 10 58, .cell 11 58, .tmp 12]) rfl (by simp) (.cell gb208 58 #[.int .u64 a3_0, .int .u64 a3_1] (0, 0) _ rfl (by (with_reducible repeat (first | apply bN | apply bD | apply bA)); refine blk_far ?_ NB208_209.out _; (with_reducible repeat (first | apply bN | apply bD | apply bA)); refine blk_far ?_ NB208_209.out _; (with_reducible repeat (first | apply bN | apply bD | apply bA)); refine blk_put (cs := #[.int .u64 a3_0, .int .u64 0]) ?_ 1 _ rfl; (with_reducible repeat (first | apply bN | apply bD | apply bA)); refine blk_put (cs := #[.int .u64 0, .int .u64 0]) ?_ 0 _ rfl; (with_reducible repeat (first | apply bN | apply bD | apply bA)); exact BK208.out) Try.underlying58 rfl (by kernel_rfl) (.cell gb209 58 #[.int .u64 a4_0, .int .u64 a4_1] (0, 0) _ rfl (by (with_reducible repeat (first | apply bN | apply bD | apply bA)); refine blk_put (cs := #[.int .u64 a4_0, .int .u64 0]) ?_ 1 _ rfl; (with_reducible repeat (first | apply bN | apply bD | apply bA)); refine blk_put (cs := #[.int .u64 0, .int .u64 0]) ?_ 0 _ rfl; (with_reducible repeat (first | apply bN | apply bD | apply bA)); refine blk_far ?_ NB209_208.out _; (with_reducible repeat (first | apply bN | apply bD | apply bA)); refine blk_far ?_ NB209_208.out _; (with_reducible repeat (first | apply bN | apply bD | apply bA)); exact BK209.out) Try.underlying58 rfl (by kernel_rfl) (.tmp .nil)))) rfl ?_
       exact ⟨by first | rfl | (simp [errW_none, errW_some] <;> rfl) | (simp [*, errW_none, errW_some] <;> rfl), by repeat (first | (with_reducible first | exact HB.out | apply lA | apply lN | apply lD | refine lS ?_ ‹_›) | exact HB.out)⟩
      ·
       replace c51 := Bool.eq_false_iff.mpr c51
       subst c51
       have H1 : (if a1 = true then (span_narrow.j2 kj41 a0 a2 9223372036854775807 a3_0 a3_1 a4_0 a4_1) else (span_narrow.j2 kj41 a0 a2 2147483647 a3_0 a3_1 a4_0 a4_1)) = some (r1, r2, r3, r4, r5) := by rw [if_neg (show ¬ (false = true) by decide)] at H; exact H
       clear H; have H := H1; clear H1
       have HC57 := Aside0.mk H
       clear H
       go_upto_if 51 with (fail)
       go_cut [15] (fun v15 wc => ∃ (kq : Nat) (x15_56 : Int), v15 = .int .u64 x15_56 ∧ Aside0 (span_narrow.j2 kq a0 a2 x15_56 a3_0 a3_1 a4_0 a4_1 = some (r1, r2, r3, r4, r5)) ∧ Aside0 (kq ≤ kj41) ∧ Aside0 (wc.heap[gb206]? = some (.cells #[.int .u64 a3_0, .int .u64 a3_1] 58 (0, 0))) ∧ Aside0 (wc.heap[gb207]? = some (.cells #[.int .u64 a4_0, .int .u64 a4_1] 58 (0, 0))) ∧ Aside0 (wc.heap[gb208]? = some (.cells #[.int .u64 0, .int .u64 0] 58 (0, 0))) ∧ Aside0 (wc.heap[gb209]? = some (.cells #[.int .u64 0, .int .u64 0] 58 (0, 0))) ∧ Aside0 (Below w.heap.size w wc))
       case first =>
        have H := HC57.out
        clear HC57
        by_cases c58 : a1 = true
        ·
         subst c58
         have H1 : (span_narrow.j2 kj41 a0 a2 9223372036854775807 a3_0 a3_1 a4_0 a4_1) = some (r1, r2, r3, r4, r5) := by rw [if_pos rfl] at H; exact H
         clear H; have H := H1; clear H1
         have H' := Aside0.mk H
         clear H
         go_wp2
         go_meet
         case rel => exact ⟨_, (9223372036854775807), (by first | rfl | (simp; done) | (simp [*]; done)), H', ⟨by have := HJ5.out; have := HJ41.out; first | omega | exact Nat.le_refl _⟩, ⟨by (with_reducible repeat (first | apply bN | apply bD | apply bA)); exact BK206.out⟩, ⟨by (with_reducible repeat (first | apply bN | apply bD | apply bA)); exact BK207.out⟩, ⟨by (with_reducible repeat (first | apply bN | apply bD | apply bA)); exact BK208.out⟩, ⟨by (with_reducible repeat (first | apply bN | apply bD | apply bA)); exact BK209.out⟩, ⟨by repeat (first | (with_reducible first | exact HB.out | apply lA | apply lN | apply lD | refine lS ?_ ‹_›) | exact HB.out)⟩⟩
        ·
         replace c58 := Bool.eq_false_iff.mpr c58
         subst c58
         have H1 : (span_narrow.j2 kj41 a0 a2 2147483647 a3_0 a3_1 a4_0 a4_1) = some (r1, r2, r3, r4, r5) := by rw [if_neg (show ¬ (false = true) by decide)] at H; exact H
         clear H; have H := H1; clear H1
         have H' := Aside0.mk H
         clear H
         go_wp2
         go_meet
         case rel => exact ⟨_, (2147483647), (by first | rfl | (simp; done) | (simp [*]; done)), H', ⟨by have := HJ5.out; have := HJ41.out; first | omega | exact Nat.le_refl _⟩, ⟨by (with_reducible repeat (first | apply bN | apply bD | apply bA)); exact BK206.out⟩, ⟨by (with_reducible repeat (first | apply bN | apply bD | apply bA)); exact BK207.out⟩, ⟨by (with_reducible repeat (first | apply bN | apply bD | apply bA)); exact BK208.out⟩, ⟨by (with_reducible repeat (first | apply bN | apply bD | apply bA)); exact BK209.out⟩, ⟨by repeat (first | (with_reducible first | exact HB.out | apply lA | apply lN | apply lD | refine lS ?_ ‹_›) | exact HB.out)⟩⟩
       case rest =>
        clear HC57
        try clear c1
        try clear c2
        try clear p2
        try clear c3
        try clear c4
        try clear c5
        try clear c12
        try clear c14
        try clear c15
        try clear c16
        try clear c19
        try clear c20
        try clear c23
        try clear c24
        try clear c25
        try clear c28
        try clear c30
        try clear c31
        try clear c32
        try clear c34
        try clear c35
        try clear c43
        try clear c44
        try clear c45
        try clear c46
        try clear c48
        try clear c49
        try clear c50
        try clear c51
        try clear c52
        try clear c53
        try clear c58
        try clear hcz17_0
        try clear hcz17_1
        try clear hcz21_0
        try clear hcz21_1
        try clear hcz26_0
        try clear hcz26_1
        try clear hcz33_0
        try clear hcz33_1
        try clear hcz36_0
        try clear hcz36_1
        try clear hcz47_0
        try clear hcz47_1
        try clear hcz50_0
        try clear hcz50_1
        try clear hfz17_0
        try clear hfz17_1
        try clear hfz21_0
        try clear hfz21_1
        try clear hfz26_0
        try clear hfz26_1
        try clear hfz33_0
        try clear hfz33_1
        try clear hfz36_0
        try clear hfz36_1
        try clear hfz47_0
        try clear hfz47_1
        try clear hfz50_0
        try clear hfz50_1
        try clear p2
        obtain ⟨kq, x15_56, rfl, HA, HJ56, BK206, BK207, BK208, BK209, HB⟩ := hcut
        cases kq with
        | zero => exact absurd HA.out (by simp [span_narrow.j2])
        | succ kj56 =>
         have H := HA.out
         clear HA
         simp only [span_narrow.j2] at H
         have HC59 := Aside0.mk H
         clear H
         go_upto_region 9 with (fail)
         go_cut [61] (fun v61 wc => ∃ (kq : Nat) (x61_58 : Bool), v61 = .bool x61_58 ∧ Aside0 (span_narrow.j3 kq a0 a2 x15_56 x61_58 a3_0 a3_1 a4_0 a4_1 = some (r1, r2, r3, r4, r5)) ∧ Aside0 (kq ≤ kj56) ∧ Aside0 (wc.heap[gb206]? = some (.cells #[.int .u64 a3_0, .int .u64 a3_1] 58 (0, 0))) ∧ Aside0 (wc.heap[gb207]? = some (.cells #[.int .u64 a4_0, .int .u64 a4_1] 58 (0, 0))) ∧ Aside0 (wc.heap[gb208]? = some (.cells #[.int .u64 0, .int .u64 0] 58 (0, 0))) ∧ Aside0 (wc.heap[gb209]? = some (.cells #[.int .u64 0, .int .u64 0] 58 (0, 0))) ∧ Aside0 (Below w.heap.size w wc))
         case first =>
          have H := HC59.out
          clear HC59
          by_cases c60 : a0 ≥ 96
          ·
           rw [if_pos c60] at H
           have c60b0 : decide (96 ≤ a0) = true := decide_eq_true c60; clear c60
           (first | rw [c60b0] | (simp only [i64_w, i32_w]; rw [c60b0]) | skip)
           by_cases c61 : a0 ≤ 112
           ·
            rw [if_pos c61] at H
            have c61b0 : decide (a0 ≤ 112) = true := decide_eq_true c61; clear c61
            have H' := Aside0.mk H
            clear H
            go_wp2
            go_meet
            case rel => exact ⟨_, (true), (by first | rfl | (simp; done) | (simp [*]; done)), H', ⟨by have := HJ5.out; have := HJ41.out; have := HJ56.out; first | omega | exact Nat.le_refl _⟩, ⟨by (with_reducible repeat (first | apply bN | apply bD | apply bA)); exact BK206.out⟩, ⟨by (with_reducible repeat (first | apply bN | apply bD | apply bA)); exact BK207.out⟩, ⟨by (with_reducible repeat (first | apply bN | apply bD | apply bA)); exact BK208.out⟩, ⟨by (with_reducible repeat (first | apply bN | apply bD | apply bA)); exact BK209.out⟩, ⟨by repeat (first | (with_reducible first | exact HB.out | apply lA | apply lN | apply lD | refine lS ?_ ‹_›) | exact HB.out)⟩⟩
           ·
            rw [if_neg c61] at H
            have c61b0 : decide (a0 ≤ 112) = false := decide_eq_false c61; clear c61
            have H' := Aside0.mk H
            clear H
            go_wp2
            go_meet
            case rel => exact ⟨_, (decide (a0 ≥ 192)), (by first | rfl | (simp; done) | (simp [*]; done)), H', ⟨by have := HJ5.out; have := HJ41.out; have := HJ56.out; first | omega | exact Nat.le_refl _⟩, ⟨by (with_reducible repeat (first | apply bN | apply bD | apply bA)); exact BK206.out⟩, ⟨by (with_reducible repeat (first | apply bN | apply bD | apply bA)); exact BK207.out⟩, ⟨by (with_reducible repeat (first | apply bN | apply bD | apply bA)); exact BK208.out⟩, ⟨by (with_reducible repeat (first | apply bN | apply bD | apply bA)); exact BK209.out⟩, ⟨by repeat (first | (with_reducible first | exact HB.out | apply lA | apply lN | apply lD | refine lS ?_ ‹_›) | exact HB.out)⟩⟩
          ·
           rw [if_neg c60] at H
           have c60b0 : decide (96 ≤ a0) = false := decide_eq_false c60; clear c60
           (first | rw [c60b0] | (simp only [i64_w, i32_w]; rw [c60b0]) | skip)
           have H' := Aside0.mk H
           clear H
           go_wp2
           go_meet
           case rel => exact ⟨_, (decide (a0 ≥ 192)), (by first | rfl | (simp; done) | (simp [*]; done)), H', ⟨by have := HJ5.out; have := HJ41.out; have := HJ56.out; first | omega | exact Nat.le_refl _⟩, ⟨by (with_reducible repeat (first | apply bN | apply bD | apply bA)); exact BK206.out⟩, ⟨by (with_reducible repeat (first | apply bN | apply bD | apply bA)); exact BK207.out⟩, ⟨by (with_reducible repeat (first | apply bN | apply bD | apply bA)); exact BK208.out⟩, ⟨by (with_reducible repeat (first | apply bN | apply bD | apply bA)); exact BK209.out⟩, ⟨by repeat (first | (with_reducible first | exact HB.out | apply lA | apply lN | apply lD | refine lS ?_ ‹_›) | exact HB.out)⟩⟩
         case rest =>
          clear HC59
          try clear c1
          try clear c2
          try clear p2
          try clear c3
          try clear c4
          try clear c5
          try clear c6
          try clear c12
          try clear c14
          try clear c15
          try clear c16
          try clear c19
          try clear c20
          try clear c23
          try clear c24
          try clear c25
          try clear c28
          try clear c30
          try clear c31
          try clear c32
          try clear c34
          try clear c35
          try clear c43
          try clear c44
          try clear c45
          try clear c46
          try clear c48
          try clear c49
          try clear c50
          try clear c51
          try clear c52
          try clear c53
          try clear c58
          try clear c60
          try clear c60b0
          try clear c61
          try clear c61b0
          try clear hcz17_0
          try clear hcz17_1
          try clear hcz21_0
          try clear hcz21_1
          try clear hcz26_0
          try clear hcz26_1
          try clear hcz33_0
          try clear hcz33_1
          try clear hcz36_0
          try clear hcz36_1
          try clear hcz47_0
          try clear hcz47_1
          try clear hcz50_0
          try clear hcz50_1
          try clear hfz17_0
          try clear hfz17_1
          try clear hfz21_0
          try clear hfz21_1
          try clear hfz26_0
          try clear hfz26_1
          try clear hfz33_0
          try clear hfz33_1
          try clear hfz36_0
          try clear hfz36_1
          try clear hfz47_0
          try clear hfz47_1
          try clear hfz50_0
          try clear hfz50_1
          try clear p2
          obtain ⟨kq, x61_58, rfl, HA, HJ58, BK206, BK207, BK208, BK209, HB⟩ := hcut
          cases kq with
          | zero => exact absurd HA.out (by simp [span_narrow.j3])
          | succ kj58 =>
           have H := HA.out
           clear HA
           simp only [span_narrow.j3] at H
           by_cases c62 : x61_58 = true
           ·
            subst c62
            have H1 : (if a3_1 > x15_56 then (some (a3_0, a3_1, a4_0, a4_1, true)) else (if a4_1 > x15_56 then (some (a3_0, a3_1, a4_0, a4_1, true)) else ((some (([32, 48, 160, 176] : List Int) : List Int)).bind fun y214 => (if 0 ≤ (wrap64 ((Go.bits .and .i64 (a0 / 16) 1) + (Go.bits .and .i64 (a0 / 64) 2))) then (if (wrap64 ((Go.bits .and .i64 (a0 / 16) 1) + (Go.bits .and .i64 (a0 / 64) 2))) < (y214.length : Int) then ((span_order.f kj58 (rd y214 (wrap64 ((Go.bits .and .i64 (a0 / 16) 1) + (Go.bits .and .i64 (a0 / 64) 2)))) a2 a3_0 a3_1 a4_0 a4_1).bind fun bt218 => (some (bt218.1, bt218.2.1, bt218.2.2.1, bt218.2.2.2.1, bt218.2.2.2.2))) else (none)) else (none))))) = some (r1, r2, r3, r4, r5) := by rw [if_pos rfl] at H; exact H
            clear H; have H := H1; clear H1
            by_cases c63 : a3_1 > x15_56
            ·
             rw [if_pos c63] at H
             have c63b0 : decide (x15_56 < a3_1) = true := decide_eq_true c63; clear c63; simp only [Option.some.injEq, Prod.mk.injEq] at H; obtain ⟨rfl, rfl, rfl, rfl, rfl⟩ := H; have hnb64 := NB206_207.out; have hnc64 := NB207_206.out; have hnb65 := NB206_208.out; have hnc65 := NB208_206.out; have hnb66 := NB206_209.out; have hnc66 := NB209_206.out; have hcz67_0 : wc.cell? ⟨gb206, 0, none⟩ = some (.int .u64 a3_0) := (blk_cell BK206.out 0).trans rfl; have hcz67_1 : wc.cell? ⟨gb206, 1, none⟩ = some (.int .u64 a3_1) := (blk_cell BK206.out 1).trans rfl; have hfz67_0 := blk_frozen BK206.out 0; have hfz67_1 := blk_frozen BK206.out 1
             try go_wp2
             have n0_ := Aside0.mk (blk_drew BK206.out); have n1_ := Aside0.mk (blk_drew BK207.out); have n2_ := Aside0.mk (blk_drew BK208.out); have n3_ := Aside0.mk (blk_drew BK209.out)
             have n4_ := Aside0.mk (below_drew1 HB.out)
             clear BK206; clear BK207; clear BK208; clear BK209; clear HB; have BK206 := n0_; have BK207 := n1_; have BK208 := n2_; have BK209 := n3_; have HB := n4_; clear n0_ n1_ n2_ n3_ n4_
             refine start_ (n := 5) (S := fun w' => w'.cell? ⟨gb206, 0, none⟩ = some (.int .u64 a3_0) ∧ w'.cell? ⟨gb206, 1, none⟩ = some (.int .u64 a3_1) ∧ w'.cell? ⟨gb207, 0, none⟩ = some (.int .u64 a4_0) ∧ w'.cell? ⟨gb207, 1, none⟩ = some (.int .u64 a4_1)) (ds := []) #[false, false, false, false, false] (by kernel_rfl) rfl rfl ⟨(blk_cell BK206.out 0).trans rfl, (blk_cell BK206.out 1).trans rfl, (blk_cell BK207.out 0).trans rfl, (blk_cell BK207.out 1).trans rfl⟩ (fun hHeld => ?_)
             generalize wc.drew = w68 at BK206 BK207 BK208 BK209 HB hHeld ⊢
             refine take_ (i := 0) (N := some 72) (v := ?_) (a' := ?_) #[true, false, false, false, false] rfl rfl (by kernel_rfl) (fun _ _ _ h => h) (Or.inl ⟨by rfl, ?_⟩) hHeld ?_ ?_
             rotate_left
             ·
              rintro w' ⟨s0, s1, s2, s3⟩
              go_simp; with_reducible rfl
             rotate_left
             ·
              simp only [Act.put, List.setIfInBounds_toArray, List.set_cons_zero, List.set_cons_succ, i64_w, i32_w]
              rfl
             refine take_ (i := 1) (N := some 73) (v := ?_) (a' := ?_) #[true, true, false, false, false] rfl rfl (by kernel_rfl) (fun _ _ _ h => h) (Or.inl ⟨by rfl, ?_⟩) hHeld ?_ ?_
             rotate_left
             ·
              rintro w' ⟨s0, s1, s2, s3⟩
              go_simp; with_reducible rfl
             rotate_left
             ·
              simp only [Act.put, List.setIfInBounds_toArray, List.set_cons_zero, List.set_cons_succ, i64_w, i32_w]
              rfl
             refine one_ (i := 2) (N := none) #[true, true, true, false, false] rfl rfl (by kernel_rfl) (by decide) (fun K hK => ?_)
             have hs69 : w68.cell? ⟨gb208, 0, none⟩ = some (.int .u64 0) := (blk_cell BK208.out 0).trans rfl
             have hfs69 := blk_frozen BK208.out 0
             have hns69_0 := NB206_208.out
             have hns69_1 := NB207_208.out
             have hns69_3 := NB209_208.out
             have hms69_0 := NB208_206.out
             have hms69_1 := NB208_207.out
             have hms69_3 := NB208_209.out
             have hs70 : w68.cell? ⟨gb208, 1, none⟩ = some (.int .u64 0) := (blk_cell BK208.out 1).trans rfl
             have hfs70 := blk_frozen BK208.out 1
             have hns70_0 := NB206_208.out
             have hns70_1 := NB207_208.out
             have hns70_3 := NB209_208.out
             have hms70_0 := NB208_206.out
             have hms70_1 := NB208_207.out
             have hms70_3 := NB208_209.out
             refine skip_ (w1 := ?_) (by rfl) rfl ?_ ?_
             rotate_left
             ·
              go_simp
              rfl
             refine hK.out _ _ ⟨((cell_far (p := ⟨gb208, _, none⟩) NB206_208.out _).trans (((cell_far (p := ⟨gb208, _, none⟩) NB206_208.out _).trans (hHeld.1)))), ((cell_far (p := ⟨gb208, _, none⟩) NB206_208.out _).trans (((cell_far (p := ⟨gb208, _, none⟩) NB206_208.out _).trans (hHeld.2.1)))), ((cell_far (p := ⟨gb208, _, none⟩) NB207_208.out _).trans (((cell_far (p := ⟨gb208, _, none⟩) NB207_208.out _).trans (hHeld.2.2.1)))), ((cell_far (p := ⟨gb208, _, none⟩) NB207_208.out _).trans (((cell_far (p := ⟨gb208, _, none⟩) NB207_208.out _).trans (hHeld.2.2.2))))⟩ (fun hHeld => ?_)
             clear hK K
             refine one_ (i := 3) (N := none) #[true, true, true, true, false] rfl rfl (by kernel_rfl) (by decide) (fun K hK => ?_)
             have hs71 : w68.cell? ⟨gb209, 0, none⟩ = some (.int .u64 0) := (blk_cell BK209.out 0).trans rfl
             have hfs71 := blk_frozen BK209.out 0
             have hns71_0 := NB206_209.out
             have hns71_1 := NB207_209.out
             have hns71_2 := NB208_209.out
             have hms71_0 := NB209_206.out
             have hms71_1 := NB209_207.out
             have hms71_2 := NB209_208.out
             have hs72 : w68.cell? ⟨gb209, 1, none⟩ = some (.int .u64 0) := (blk_cell BK209.out 1).trans rfl
             have hfs72 := blk_frozen BK209.out 1
             have hns72_0 := NB206_209.out
             have hns72_1 := NB207_209.out
             have hns72_2 := NB208_209.out
             have hms72_0 := NB209_206.out
             have hms72_1 := NB209_207.out
             have hms72_2 := NB209_208.out
             refine skip_ (w1 := ?_) (by rfl) rfl ?_ ?_
             rotate_left
             ·
              go_simp
              rfl
             refine hK.out _ _ ⟨((cell_far (p := ⟨gb209, _, none⟩) NB206_209.out _).trans (((cell_far (p := ⟨gb209, _, none⟩) NB206_209.out _).trans (hHeld.1)))), ((cell_far (p := ⟨gb209, _, none⟩) NB206_209.out _).trans (((cell_far (p := ⟨gb209, _, none⟩) NB206_209.out _).trans (hHeld.2.1)))), ((cell_far (p := ⟨gb209, _, none⟩) NB207_209.out _).trans (((cell_far (p := ⟨gb209, _, none⟩) NB207_209.out _).trans (hHeld.2.2.1)))), ((cell_far (p := ⟨gb209, _, none⟩) NB207_209.out _).trans (((cell_far (p := ⟨gb209, _, none⟩) NB207_209.out _).trans (hHeld.2.2.2))))⟩ (fun hHeld => ?_)
             clear hK K
             refine pure_ (i := 4) (N := some 12) (v := ?_) (a' := ?_) #[true, true, true, true, true] rfl rfl (by kernel_rfl) (fun _ _ _ h => h) (Or.inl ⟨by rfl, ?_⟩) ?_ ?_
             rotate_left
             ·
              intro w'
              go_simp; with_reducible rfl
             rotate_left
             ·
              simp only [Act.put, List.setIfInBounds_toArray, List.set_cons_zero, List.set_cons_succ, i64_w, i32_w]
              rfl
             refine done_ (by kernel_rfl) ?_
             try go_wp2
             refine bodyPost_ret (results_list (rs := [.cell 10 58, .cell 11 58, .tmp 12]) rfl (by simp) (.cell gb208 58 #[.int .u64 a3_0, .int .u64 a3_1] (0, 0) _ rfl (by (with_reducible repeat (first | apply bN | apply bD | apply bA)); refine blk_far ?_ NB208_209.out _; (with_reducible repeat (first | apply bN | apply bD | apply bA)); refine blk_far ?_ NB208_209.out _; (with_reducible repeat (first | apply bN | apply bD | apply bA)); refine blk_put (cs := #[.int .u64 a3_0, .int .u64 0]) ?_ 1 _ rfl; (with_reducible repeat (first | apply bN | apply bD | apply bA)); refine blk_put (cs := #[.int .u64 0, .int .u64 0]) ?_ 0 _ rfl; (with_reducible repeat (first | apply bN | apply bD | apply bA)); exact BK208.out) Try.underlying58 rfl (by kernel_rfl) (.cell gb209 58 #[.int .u64 a4_0, .int .u64 a4_1] (0, 0) _ rfl (by (with_reducible repeat (first | apply bN | apply bD | apply bA)); refine blk_put (cs := #[.int .u64 a4_0, .int .u64 0]) ?_ 1 _ rfl; (with_reducible repeat (first | apply bN | apply bD | apply bA)); refine blk_put (cs := #[.int .u64 0, .int .u64 0]) ?_ 0 _ rfl; (with_reducible repeat (first | apply bN | apply bD | apply bA)); refine blk_far ?_ NB209_208.out _; (with_reducible repeat (first | apply bN | apply bD | apply bA)); refine blk_far ?_ NB209_208.out _; (with_reducible repeat (first | apply bN | apply bD | apply bA)); exact BK209.out) Try.underlying58 rfl (by kernel_rfl) (.tmp .nil)))) rfl ?_
             exact ⟨by first | rfl | (simp [errW_none, errW_some] <;> rfl) | (simp [*, errW_none, errW_some] <;> rfl), by repeat (first | (with_reducible first | exact HB.out | apply lA | apply lN | apply lD | refine lS ?_ ‹_›) | exact HB.out)⟩
            ·
             rw [if_neg c63] at H
             have c63b0 : decide (x15_56 < a3_1) = false := decide_eq_false c63; clear c63
             by_cases c73 : a4_1 > x15_56
             ·
              rw [if_pos c73] at H
              have c73b0 : decide (x15_56 < a4_1) = true := decide_eq_true c73; clear c73; simp only [Option.some.injEq, Prod.mk.injEq] at H; obtain ⟨rfl, rfl, rfl, rfl, rfl⟩ := H; have hnb74 := NB206_207.out; have hnc74 := NB207_206.out; have hnb75 := NB206_208.out; have hnc75 := NB208_206.out; have hnb76 := NB206_209.out; have hnc76 := NB209_206.out; have hcz77_0 : wc.cell? ⟨gb206, 0, none⟩ = some (.int .u64 a3_0) := (blk_cell BK206.out 0).trans rfl; have hcz77_1 : wc.cell? ⟨gb206, 1, none⟩ = some (.int .u64 a3_1) := (blk_cell BK206.out 1).trans rfl; have hfz77_0 := blk_frozen BK206.out 0; have hfz77_1 := blk_frozen BK206.out 1; have hnb78 := NB207_208.out; have hnc78 := NB208_207.out; have hnb79 := NB207_209.out; have hnc79 := NB209_207.out; have hcz80_0 : wc.cell? ⟨gb207, 0, none⟩ = some (.int .u64 a4_0) := (blk_cell BK207.out 0).trans rfl; have hcz80_1 : wc.cell? ⟨gb207, 1, none⟩ = some (.int .u64 a4_1) := (blk_cell BK207.out 1).trans rfl; have hfz80_0 := blk_frozen BK207.out 0; have hfz80_1 := blk_frozen BK207.out 1
              try go_wp2
              have n0_ := Aside0.mk (blk_drew BK206.out); have n1_ := Aside0.mk (blk_drew BK207.out); have n2_ := Aside0.mk (blk_drew BK208.out); have n3_ := Aside0.mk (blk_drew BK209.out)
              have n4_ := Aside0.mk (below_drew1 HB.out)
              clear BK206; clear BK207; clear BK208; clear BK209; clear HB; have BK206 := n0_; have BK207 := n1_; have BK208 := n2_; have BK209 := n3_; have HB := n4_; clear n0_ n1_ n2_ n3_ n4_
              refine start_ (n := 5) (S := fun w' => w'.cell? ⟨gb206, 0, none⟩ = some (.int .u64 a3_0) ∧ w'.cell? ⟨gb206, 1, none⟩ = some (.int .u64 a3_1) ∧ w'.cell? ⟨gb207, 0, none⟩ = some (.int .u64 a4_0) ∧ w'.cell? ⟨gb207, 1, none⟩ = some (.int .u64 a4_1)) (ds := []) #[false, false, false, false, false] (by kernel_rfl) rfl rfl ⟨(blk_cell BK206.out 0).trans rfl, (blk_cell BK206.out 1).trans rfl, (blk_cell BK207.out 0).trans rfl, (blk_cell BK207.out 1).trans rfl⟩ (fun hHeld => ?_)
              generalize wc.drew = w81 at BK206 BK207 BK208 BK209 HB hHeld ⊢
              refine take_ (i := 0) (N := some 72) (v := ?_) (a' := ?_) #[true, false, false, false, false] rfl rfl (by kernel_rfl) (fun _ _ _ h => h) (Or.inl ⟨by rfl, ?_⟩) hHeld ?_ ?_
              rotate_left
              ·
               rintro w' ⟨s0, s1, s2, s3⟩
               go_simp; with_reducible rfl
              rotate_left
              ·
               simp only [Act.put, List.setIfInBounds_toArray, List.set_cons_zero, List.set_cons_succ, i64_w, i32_w]
               rfl
              refine take_ (i := 1) (N := some 73) (v := ?_) (a' := ?_) #[true, true, false, false, false] rfl rfl (by kernel_rfl) (fun _ _ _ h => h) (Or.inl ⟨by rfl, ?_⟩) hHeld ?_ ?_
              rotate_left
              ·
               rintro w' ⟨s0, s1, s2, s3⟩
               go_simp; with_reducible rfl
              rotate_left
              ·
               simp only [Act.put, List.setIfInBounds_toArray, List.set_cons_zero, List.set_cons_succ, i64_w, i32_w]
               rfl
              refine one_ (i := 2) (N := none) #[true, true, true, false, false] rfl rfl (by kernel_rfl) (by decide) (fun K hK => ?_)
              have hs82 : w81.cell? ⟨gb208, 0, none⟩ = some (.int .u64 0) := (blk_cell BK208.out 0).trans rfl
              have hfs82 := blk_frozen BK208.out 0
              have hns82_0 := NB206_208.out
              have hns82_1 := NB207_208.out
              have hns82_3 := NB209_208.out
              have hms82_0 := NB208_206.out
              have hms82_1 := NB208_207.out
              have hms82_3 := NB208_209.out
              have hs83 : w81.cell? ⟨gb208, 1, none⟩ = some (.int .u64 0) := (blk_cell BK208.out 1).trans rfl
              have hfs83 := blk_frozen BK208.out 1
              have hns83_0 := NB206_208.out
              have hns83_1 := NB207_208.out
              have hns83_3 := NB209_208.out
              have hms83_0 := NB208_206.out
              have hms83_1 := NB208_207.out
              have hms83_3 := NB208_209.out
              refine skip_ (w1 := ?_) (by rfl) rfl ?_ ?_
              rotate_left
              ·
               go_simp
               rfl
              refine hK.out _ _ ⟨((cell_far (p := ⟨gb208, _, none⟩) NB206_208.out _).trans (((cell_far (p := ⟨gb208, _, none⟩) NB206_208.out _).trans (hHeld.1)))), ((cell_far (p := ⟨gb208, _, none⟩) NB206_208.out _).trans (((cell_far (p := ⟨gb208, _, none⟩) NB206_208.out _).trans (hHeld.2.1)))), ((cell_far (p := ⟨gb208, _, none⟩) NB207_208.out _).trans (((cell_far (p := ⟨gb208, _, none⟩) NB207_208.out _).trans (hHeld.2.2.1)))), ((cell_far (p := ⟨gb208, _, none⟩) NB207_208.out _).trans (((cell_far (p := ⟨gb208, _, none⟩) NB207_208.out _).trans (hHeld.2.2.2))))⟩ (fun hHeld => ?_)
              clear hK K
              refine one_ (i := 3) (N := none) #[true, true, true, true, false] rfl rfl (by kernel_rfl) (by decide) (fun K hK => ?_)
              have hs84 : w81.cell? ⟨gb209, 0, none⟩ = some (.int .u64 0) := (blk_cell BK209.out 0).trans rfl
              have hfs84 := blk_frozen BK209.out 0
              have hns84_0 := NB206_209.out
              have hns84_1 := NB207_209.out
              have hns84_2 := NB208_209.out
              have hms84_0 := NB209_206.out
              have hms84_1 := NB209_207.out
              have hms84_2 := NB209_208.out
              have hs85 : w81.cell? ⟨gb209, 1, none⟩ = some (.int .u64 0) := (blk_cell BK209.out 1).trans rfl
              have hfs85 := blk_frozen BK209.out 1
              have hns85_0 := NB206_209.out
              have hns85_1 := NB207_209.out
              have hns85_2 := NB208_209.out
              have hms85_0 := NB209_206.out
              have hms85_1 := NB209_207.out
              have hms85_2 := NB209_208.out
              refine skip_ (w1 := ?_) (by rfl) rfl ?_ ?_
              rotate_left
              ·
               go_simp
               rfl
              refine hK.out _ _ ⟨((cell_far (p := ⟨gb209, _, none⟩) NB206_209.out _).trans (((cell_far (p := ⟨gb209, _, none⟩) NB206_209.out _).trans (hHeld.1)))), ((cell_far (p := ⟨gb209, _, none⟩) NB206_209.out _).trans (((cell_far (p := ⟨gb209, _, none⟩) NB206_209.out _).trans (hHeld.2.1)))), ((cell_far (p := ⟨gb209, _, none⟩) NB207_209.out _).trans (((cell_far (p := ⟨gb209, _, none⟩) NB207_209.out _).trans (hHeld.2.2.1)))), ((cell_far (p := ⟨gb209, _, none⟩) NB207_209.out _).trans (((cell_far (p := ⟨gb209, _, none⟩) NB207_209.out _).trans (hHeld.2.2.2))))⟩ (fun hHeld => ?_)
              clear hK K
              refine pure_ (i := 4) (N := some 12) (v := ?_) (a' := ?_) #[true, true, true, true, true] rfl rfl (by kernel_rfl) (fun _ _ _ h => h) (Or.inl ⟨by rfl, ?_⟩) ?_ ?_
              rotate_left
              ·
               intro w'
               go_simp; with_reducible rfl
              rotate_left
              ·
               simp only [Act.put, List.setIfInBounds_toArray, List.set_cons_zero, List.set_cons_succ, i64_w, i32_w]
               rfl
              refine done_ (by kernel_rfl) ?_
              try go_wp2
              refine bodyPost_ret (results_list (rs := [.cell 10 58, .cell 11 58, .tmp 12]) rfl (by simp) (.cell gb208 58 #[.int .u64 a3_0, .int .u64 a3_1] (0, 0) _ rfl (by (with_reducible repeat (first | apply bN | apply bD | apply bA)); refine blk_far ?_ NB208_209.out _; (with_reducible repeat (first | apply bN | apply bD | apply bA)); refine blk_far ?_ NB208_209.out _; (with_reducible repeat (first | apply bN | apply bD | apply bA)); refine blk_put (cs := #[.int .u64 a3_0, .int .u64 0]) ?_ 1 _ rfl; (with_reducible repeat (first | apply bN | apply bD | apply bA)); refine blk_put (cs := #[.int .u64 0, .int .u64 0]) ?_ 0 _ rfl; (with_reducible repeat (first | apply bN | apply bD | apply bA)); exact BK208.out) Try.underlying58 rfl (by kernel_rfl) (.cell gb209 58 #[.int .u64 a4_0, .int .u64 a4_1] (0, 0) _ rfl (by (with_reducible repeat (first | apply bN | apply bD | apply bA)); refine blk_put (cs := #[.int .u64 a4_0, .int .u64 0]) ?_ 1 _ rfl; (with_reducible repeat (first | apply bN | apply bD | apply bA)); refine blk_put (cs := #[.int .u64 0, .int .u64 0]) ?_ 0 _ rfl; (with_reducible repeat (first | apply bN | apply bD | apply bA)); refine blk_far ?_ NB209_208.out _; (with_reducible repeat (first | apply bN | apply bD | apply bA)); refine blk_far ?_ NB209_208.out _; (with_reducible repeat (first | apply bN | apply bD | apply bA)); exact BK209.out) Try.underlying58 rfl (by kernel_rfl) (.tmp .nil)))) rfl ?_
              exact ⟨by first | rfl | (simp [errW_none, errW_some] <;> rfl) | (simp [*, errW_none, errW_some] <;> rfl), by repeat (first | (with_reducible first | exact HB.out | apply lA | apply lN | apply lD | refine lS ?_ ‹_›) | exact HB.out)⟩
             ·
              rw [if_neg c73] at H
              have c73b0 : decide (x15_56 < a4_1) = false := decide_eq_false c73; clear c73
              obtain ⟨y214, hy214⟩ : ∃ y_ : List Int, y_ = (([32, 48, 160, 176] : List Int)) := ⟨_, rfl⟩
              replace H : (if 0 ≤ (wrap64 ((Go.bits .and .i64 (a0 / 16) 1) + (Go.bits .and .i64 (a0 / 64) 2))) then (if (wrap64 ((Go.bits .and .i64 (a0 / 16) 1) + (Go.bits .and .i64 (a0 / 64) 2))) < (y214.length : Int) then ((span_order.f kj58 (rd y214 (wrap64 ((Go.bits .and .i64 (a0 / 16) 1) + (Go.bits .and .i64 (a0 / 64) 2)))) a2 a3_0 a3_1 a4_0 a4_1).bind fun bt218 => (some (bt218.1, bt218.2.1, bt218.2.2.1, bt218.2.2.2.1, bt218.2.2.2.2))) else (none)) else (none)) = some (r1, r2, r3, r4, r5) := by first | (rw [hy214]; with_reducible exact H) | (have H2_ := (Option.bind_some _ _).symm.trans H; rw [hy214]; with_reducible exact H2_) | (have H2_ := (Option.bind_some _ _).symm.trans H; with_reducible exact H2_) | with_reducible exact H | (rw [hy214]; exact H) | exact H
              have Ny214 := Aside0.mk hy214
              clear hy214
              obtain ⟨ji86, hji86⟩ : ∃ j_ : Int, (wrap64 ((Go.bits .and .i64 (a0 / 16) 1) + (Go.bits .and .i64 (a0 / 64) 2))) = j_ := ⟨_, rfl⟩
              replace H : (if 0 ≤ (ji86) then (if (ji86) < (y214.length : Int) then ((span_order.f kj58 (rd y214 (ji86)) a2 a3_0 a3_1 a4_0 a4_1).bind fun bt218 => (some (bt218.1, bt218.2.1, bt218.2.2.1, bt218.2.2.2.1, bt218.2.2.2.2))) else (none)) else (none)) = some (r1, r2, r3, r4, r5) := by first | (rw [hji86] at H; exact H) | (simp only [hji86] at H ⊢; exact H)
              have hji86w : (IntKind.i64.wrap ((Go.bits .and .i64 (a0 / 16) 1) + (Go.bits .and .i64 (a0 / 64) 2))) = ji86 := (i64_w _).trans hji86
              by_cases c87 : 0 ≤ (ji86)
              ·
               rw [if_pos c87] at H
               have c87b0 : decide (0 ≤ (ji86)) = true := decide_eq_true c87; clear c87
               by_cases c88 : (ji86) < (y214.length : Int)
               ·
                rw [if_pos c88] at H
                have c88b0 : decide ((ji86) < (y214.length : Int)) = true := decide_eq_true c88; clear c88; replace H := Option.bind_eq_some_iff.mp H; obtain ⟨⟨t218, t219, t220, t221, t222⟩, A890, H⟩ := H
                replace H : (some (t218, t219, t220, t221, t222)) = some (r1, r2, r3, r4, r5) := H
                have A89 := Aside0.mk A890; clear A890; simp only [Option.some.injEq, Prod.mk.injEq] at H; obtain ⟨rfl, rfl, rfl, rfl, rfl⟩ := H; have hnb90 := NB206_207.out; have hnc90 := NB207_206.out; have hnb91 := NB206_208.out; have hnc91 := NB208_206.out; have hnb92 := NB206_209.out; have hnc92 := NB209_206.out; have hcz93_0 : wc.cell? ⟨gb206, 0, none⟩ = some (.int .u64 a3_0) := (blk_cell BK206.out 0).trans rfl; have hcz93_1 : wc.cell? ⟨gb206, 1, none⟩ = some (.int .u64 a3_1) := (blk_cell BK206.out 1).trans rfl; have hfz93_0 := blk_frozen BK206.out 0; have hfz93_1 := blk_frozen BK206.out 1; have hnb94 := NB207_208.out; have hnc94 := NB208_207.out; have hnb95 := NB207_209.out; have hnc95 := NB209_207.out; have hcz96_0 : wc.cell? ⟨gb207, 0, none⟩ = some (.int .u64 a4_0) := (blk_cell BK207.out 0).trans rfl; have hcz96_1 : wc.cell? ⟨gb207, 1, none⟩ = some (.int .u64 a4_1) := (blk_cell BK207.out 1).trans rfl; have hfz96_0 := blk_frozen BK207.out 0; have hfz96_1 := blk_frozen BK207.out 1
                go_wp2_with (first | ((with_reducible refine gate_dst (N := 74) rfl ?_); refine Kd.R_lit (Kd.int .i64) _ 3 ?hg (N := 74) ?hd (xs := ([32, 48, 160, 176] : List Int)) (inner := [.int .i64 32, .int .i64 48, .int .i64 160, .int .i64 176]) (ok := fun _ => True) (okp := fun _ => True) ?hr ?hp (fun _ hk => hk) trivial (Below.refl _ _) (Nat.le_refl _) (by simp) ?_; (case hd => rfl); (case hg => rfl); (case hr => first | (go_simp; done) | (go_simp; rfl)); (case hp => exact (Reps.one (show Kd.M (Kd.int .i64) _ _ _ 32 [.int .i64 32] from rfl) (Reps.one (show Kd.M (Kd.int .i64) _ _ _ 48 [.int .i64 48] from rfl) (Reps.one (show Kd.M (Kd.int .i64) _ _ _ 160 [.int .i64 160] from rfl) (Reps.one (show Kd.M (Kd.int .i64) _ _ _ 176 [.int .i64 176] from rfl) (Reps.none _ _)))))); intro v215 w97 ho98 hb hg_ hnew_; clear hg_ hnew_; (first | rw [← Ny214.out] at ho98 | (simp only [Int.reduceToNat] at ho98; rw [← Ny214.out] at ho98)); have n0_ := Aside0.mk (Kd.R_lower ho98 (below_size (by repeat (first | (with_reducible first | exact HB.out | apply lA | apply lN | apply lD | refine lS ?_ ‹_›) | exact HB.out)))); have n1_ := Aside0.mk (blk_below (g := gb206) (o := .cells #[.int .u64 a3_0, .int .u64 a3_1] 58 (0, 0)) (by (with_reducible repeat (first | apply bN | apply bD | apply bA)); exact BK206.out) hb); have n2_ := Aside0.mk (blk_below (g := gb207) (o := .cells #[.int .u64 a4_0, .int .u64 a4_1] 58 (0, 0)) (by (with_reducible repeat (first | apply bN | apply bD | apply bA)); exact BK207.out) hb); have n3_ := Aside0.mk (blk_below (g := gb208) (o := .cells #[.int .u64 0, .int .u64 0] 58 (0, 0)) (by (with_reducible repeat (first | apply bN | apply bD | apply bA)); exact BK208.out) hb); have n4_ := Aside0.mk (blk_below (g := gb209) (o := .cells #[.int .u64 0, .int .u64 0] 58 (0, 0)) (by (with_reducible repeat (first | apply bN | apply bD | apply bA)); exact BK209.out) hb); have n5_ := Aside0.mk (below_step (by repeat (first | (with_reducible first | exact HB.out | apply lA | apply lN | apply lD | refine lS ?_ ‹_›) | exact HB.out)) hb); clear BK206; clear BK207; clear BK208; clear BK209; clear HB; have HO216 := n0_; have BK206 := n1_; have BK207 := n2_; have BK208 := n3_; have BK209 := n4_; have HB := n5_; clear n0_ n1_ n2_ n3_ n4_ n5_; clear hb ho98; obtain ⟨Ao99, co99, eo99⟩ := Kd.R_slice HO216.out; subst eo99; have p217 : 0 ≤ ((ji86) : Int) := of_decide_eq_true (by first | (with_reducible assumption) | assumption); have q217 : (ji86) < (y214.length : Int) := of_decide_eq_true (by first | (with_reducible assumption) | assumption); obtain ⟨ad217, e217, hx217_0⟩ := Kd.at_int (Kd.R_reads' HO216.out).2.2 (ji86) p217 q217; cases e217; replace p217 := eq_true p217; replace q217 := eq_true q217; have hcz100_0 : w97.cell? ⟨gb206, 0, none⟩ = some (.int .u64 a3_0) := (blk_cell BK206.out 0).trans rfl; have hcz100_1 : w97.cell? ⟨gb206, 1, none⟩ = some (.int .u64 a3_1) := (blk_cell BK206.out 1).trans rfl; have hfz100_0 := blk_frozen BK206.out 0; have hfz100_1 := blk_frozen BK206.out 1; have hcz101_0 : w97.cell? ⟨gb207, 0, none⟩ = some (.int .u64 a4_0) := (blk_cell BK207.out 0).trans rfl; have hcz101_1 : w97.cell? ⟨gb207, 1, none⟩ = some (.int .u64 a4_1) := (blk_cell BK207.out 1).trans rfl; have hfz101_0 := blk_frozen BK207.out 0; have hfz101_1 := blk_frozen BK207.out 1) | ((with_reducible refine gate_callee (f := 61) rfl ?_); refine goesL_ (some 88) rfl rfl Try.func61 (by kernel_rfl) rfl #[.int .i64 (rd y214 (ji86)), .bool a2, .agg #[.int .u64 a3_0, .int .u64 a3_1], .agg #[.int .u64 a4_0, .int .u64 a4_1]] rfl (by (try simp only [List.map_toArray, List.map_cons, List.map_nil]); first | done | (simp only [hji86]; rfl) | rfl | (simp only [List.length_drop, List.length_take]; rfl)) ?_; (with_reducible refine (span_order.calls kj58 (rd y214 (ji86)) a2 a3_0 a3_1 a4_0 a4_1 t218 t219 t220 t221 t222 _ A89.out).mono ?_); rintro e w102 ⟨rfl, hb⟩; refine ⟨_, rfl, ?_⟩; have n0_ := Aside0.mk (Kd.R_below (by (with_reducible repeat (first | apply Kd.R_alloc | apply Kd.R_drewN | apply Kd.R_drew)); exact HO216.out) hb); have n1_ := Aside0.mk (blk_below (g := gb206) (o := .cells #[.int .u64 a3_0, .int .u64 a3_1] 58 (0, 0)) (by (with_reducible repeat (first | apply bN | apply bD | apply bA)); exact BK206.out) hb); have n2_ := Aside0.mk (blk_below (g := gb207) (o := .cells #[.int .u64 a4_0, .int .u64 a4_1] 58 (0, 0)) (by (with_reducible repeat (first | apply bN | apply bD | apply bA)); exact BK207.out) hb); have n3_ := Aside0.mk (blk_below (g := gb208) (o := .cells #[.int .u64 0, .int .u64 0] 58 (0, 0)) (by (with_reducible repeat (first | apply bN | apply bD | apply bA)); exact BK208.out) hb); have n4_ := Aside0.mk (blk_below (g := gb209) (o := .cells #[.int .u64 0, .int .u64 0] 58 (0, 0)) (by (with_reducible repeat (first | apply bN | apply bD | apply bA)); exact BK209.out) hb); have n5_ := Aside0.mk (below_step (by repeat (first | (with_reducible first | exact HB.out | apply lA | apply lN | apply lD | refine lS ?_ ‹_›) | exact HB.out)) hb); clear HO216; clear BK206; clear BK207; clear BK208; clear BK209; clear HB; have HO216 := n0_; have BK206 := n1_; have BK207 := n2_; have BK208 := n3_; have BK209 := n4_; have HB := n5_; clear n0_ n1_ n2_ n3_ n4_ n5_; (try clear hb); (try clear hb2); (try clear hk); (try clear hi); have hnb103 := NB208_209.out; have hnc103 := NB209_208.out; have hcz104_0 : w102.cell? ⟨gb208, 0, none⟩ = some (.int .u64 0) := (blk_cell BK208.out 0).trans rfl; have hcz104_1 : w102.cell? ⟨gb208, 1, none⟩ = some (.int .u64 0) := (blk_cell BK208.out 1).trans rfl; have hfz104_0 := blk_frozen BK208.out 0; have hfz104_1 := blk_frozen BK208.out 1; have hcz105_0 : w102.cell? ⟨gb209, 0, none⟩ = some (.int .u64 0) := (blk_cell BK209.out 0).trans rfl; have hcz105_1 : w102.cell? ⟨gb209, 1, none⟩ = some (.int .u64 0) := (blk_cell BK209.out 1).trans rfl; have hfz105_0 := blk_frozen BK209.out 0; have hfz105_1 := blk_frozen BK209.out 1))
                refine bodyPost_ret (results_list (rs := [.cell 10 58, .cell 11 58, .tmp 12]) rfl (by simp) (.cell gb208 58 #[.int .u64 t218, .int .u64 t219] (0, 0) _ rfl (by (with_reducible repeat (first | apply bN | apply bD | apply bA)); refine blk_far ?_ NB208_209.out _; (with_reducible repeat (first | apply bN | apply bD | apply bA)); refine blk_far ?_ NB208_209.out _; (with_reducible repeat (first | apply bN | apply bD | apply bA)); refine blk_put (cs := #[.int .u64 t218, .int .u64 0]) ?_ 1 _ rfl; (with_reducible repeat (first | apply bN | apply bD | apply bA)); refine blk_put (cs := #[.int .u64 0, .int .u64 0]) ?_ 0 _ rfl; (with_reducible repeat (first | apply bN | apply bD | apply bA)); exact BK208.out) Try.underlying58 rfl (by kernel_rfl) (.cell gb209 58 #[.int .u64 t220, .int .u64 t221] (0, 0) _ rfl (by (with_reducible repeat (first | apply bN | apply bD | apply bA)); refine blk_put (cs := #[.int .u64 t220, .int .u64 0]) ?_ 1 _ rfl; (with_reducible repeat (first | apply bN | apply bD | apply bA)); refine blk_put (cs := #[.int .u64 0, .int .u64 0]) ?_ 0 _ rfl; (with_reducible repeat (first | apply bN | apply bD | apply bA)); refine blk_far ?_ NB209_208.out _; (with_reducible repeat (first | apply bN | apply bD | apply bA)); refine blk_far ?_ NB209_208.out _; (with_reducible repeat (first | apply bN | apply bD | apply bA)); exact BK209.out) Try.underlying58 rfl (by kernel_rfl) (.tmp .nil)))) rfl ?_
                exact ⟨by first | rfl | (simp [errW_none, errW_some] <;> rfl) | (simp only [← hji86]; first | rfl | (simp [errW_none, errW_some] <;> rfl)) | (simp [*, errW_none, errW_some] <;> rfl), by repeat (first | (with_reducible first | exact HB.out | apply lA | apply lN | apply lD | refine lS ?_ ‹_›) | exact HB.out)⟩
               ·
                rw [if_neg c88] at H
                exact absurd H (by simp)
              ·
               rw [if_neg c87] at H
               exact absurd H (by simp)
           ·
            replace c62 := Bool.eq_false_iff.mpr c62
            subst c62
            have H1 : ((span_order.f kj58 a0 a2 a3_0 a3_1 a4_0 a4_1).bind fun bt223 => (some (bt223.1, bt223.2.1, bt223.2.2.1, bt223.2.2.2.1, bt223.2.2.2.2))) = some (r1, r2, r3, r4, r5) := by rw [if_neg (show ¬ (false = true) by decide)] at H; exact H
            clear H; have H := H1; clear H1; replace H := Option.bind_eq_some_iff.mp H; obtain ⟨⟨t223, t224, t225, t226, t227⟩, A1060, H⟩ := H
            replace H : (some (t223, t224, t225, t226, t227)) = some (r1, r2, r3, r4, r5) := H
            have A106 := Aside0.mk A1060; clear A1060; simp only [Option.some.injEq, Prod.mk.injEq] at H; obtain ⟨rfl, rfl, rfl, rfl, rfl⟩ := H; have hnb107 := NB206_207.out; have hnc107 := NB207_206.out; have hnb108 := NB206_208.out; have hnc108 := NB208_206.out; have hnb109 := NB206_209.out; have hnc109 := NB209_206.out; have hcz110_0 : wc.cell? ⟨gb206, 0, none⟩ = some (.int .u64 a3_0) := (blk_cell BK206.out 0).trans rfl; have hcz110_1 : wc.cell? ⟨gb206, 1, none⟩ = some (.int .u64 a3_1) := (blk_cell BK206.out 1).trans rfl; have hfz110_0 := blk_frozen BK206.out 0; have hfz110_1 := blk_frozen BK206.out 1; have hnb111 := NB207_208.out; have hnc111 := NB208_207.out; have hnb112 := NB207_209.out; have hnc112 := NB209_207.out; have hcz113_0 : wc.cell? ⟨gb207, 0, none⟩ = some (.int .u64 a4_0) := (blk_cell BK207.out 0).trans rfl; have hcz113_1 : wc.cell? ⟨gb207, 1, none⟩ = some (.int .u64 a4_1) := (blk_cell BK207.out 1).trans rfl; have hfz113_0 := blk_frozen BK207.out 0; have hfz113_1 := blk_frozen BK207.out 1
            go_wp2_with (first | ((with_reducible refine gate_callee (f := 61) rfl ?_); refine goesL_ (some 88) rfl rfl Try.func61 (by kernel_rfl) rfl #[.int .i64 a0, .bool a2, .agg #[.int .u64 a3_0, .int .u64 a3_1], .agg #[.int .u64 a4_0, .int .u64 a4_1]] rfl (by (try simp only [List.map_toArray, List.map_cons, List.map_nil]); first | done | rfl | (simp only [List.length_drop, List.length_take]; rfl)) ?_; (with_reducible refine (span_order.calls kj58 a0 a2 a3_0 a3_1 a4_0 a4_1 t223 t224 t225 t226 t227 _ A106.out).mono ?_); rintro e w114 ⟨rfl, hb⟩; refine ⟨_, rfl, ?_⟩; have n0_ := Aside0.mk (blk_below (g := gb206) (o := .cells #[.int .u64 a3_0, .int .u64 a3_1] 58 (0, 0)) (by (with_reducible repeat (first | apply bN | apply bD | apply bA)); exact BK206.out) hb); have n1_ := Aside0.mk (blk_below (g := gb207) (o := .cells #[.int .u64 a4_0, .int .u64 a4_1] 58 (0, 0)) (by (with_reducible repeat (first | apply bN | apply bD | apply bA)); exact BK207.out) hb); have n2_ := Aside0.mk (blk_below (g := gb208) (o := .cells #[.int .u64 0, .int .u64 0] 58 (0, 0)) (by (with_reducible repeat (first | apply bN | apply bD | apply bA)); exact BK208.out) hb); have n3_ := Aside0.mk (blk_below (g := gb209) (o := .cells #[.int .u64 0, .int .u64 0] 58 (0, 0)) (by (with_reducible repeat (first | apply bN | apply bD | apply bA)); exact BK209.out) hb); have n4_ := Aside0.mk (below_step (by repeat (first | (with_reducible first | exact HB.out | apply lA | apply lN | apply lD | refine lS ?_ ‹_›) | exact HB.out)) hb); clear BK206; clear BK207; clear BK208; clear BK209; clear HB; have BK206 := n0_; have BK207 := n1_; have BK208 := n2_; have BK209 := n3_; have HB := n4_; clear n0_ n1_ n2_ n3_ n4_; (try clear hb); (try clear hb2); (try clear hk); (try clear hi); have hnb115 := NB208_209.out; have hnc115 := NB209_208.out; have hcz116_0 : w114.cell? ⟨gb208, 0, none⟩ = some (.int .u64 0) := (blk_cell BK208.out 0).trans rfl; have hcz116_1 : w114.cell? ⟨gb208, 1, none⟩ = some (.int .u64 0) := (blk_cell BK208.out 1).trans rfl; have hfz116_0 := blk_frozen BK208.out 0; have hfz116_1 := blk_frozen BK208.out 1; have hcz117_0 : w114.cell? ⟨gb209, 0, none⟩ = some (.int .u64 0) := (blk_cell BK209.out 0).trans rfl; have hcz117_1 : w114.cell? ⟨gb209, 1, none⟩ = some (.int .u64 0) := (blk_cell BK209.out 1).trans rfl; have hfz117_0 := blk_frozen BK209.out 0; have hfz117_1 := blk_frozen BK209.out 1))
            refine bodyPost_ret (results_list (rs := [.cell 10 58, .cell 11 58, .tmp 12]) rfl (by simp) (.cell gb208 58 #[.int .u64 t223, .int .u64 t224] (0, 0) _ rfl (by (with_reducible repeat (first | apply bN | apply bD | apply bA)); refine blk_far ?_ NB208_209.out _; (with_reducible repeat (first | apply bN | apply bD | apply bA)); refine blk_far ?_ NB208_209.out _; (with_reducible repeat (first | apply bN | apply bD | apply bA)); refine blk_put (cs := #[.int .u64 t223, .int .u64 0]) ?_ 1 _ rfl; (with_reducible repeat (first | apply bN | apply bD | apply bA)); refine blk_put (cs := #[.int .u64 0, .int .u64 0]) ?_ 0 _ rfl; (with_reducible repeat (first | apply bN | apply bD | apply bA)); exact BK208.out) Try.underlying58 rfl (by kernel_rfl) (.cell gb209 58 #[.int .u64 t225, .int .u64 t226] (0, 0) _ rfl (by (with_reducible repeat (first | apply bN | apply bD | apply bA)); refine blk_put (cs := #[.int .u64 t225, .int .u64 0]) ?_ 1 _ rfl; (with_reducible repeat (first | apply bN | apply bD | apply bA)); refine blk_put (cs := #[.int .u64 0, .int .u64 0]) ?_ 0 _ rfl; (with_reducible repeat (first | apply bN | apply bD | apply bA)); refine blk_far ?_ NB209_208.out _; (with_reducible repeat (first | apply bN | apply bD | apply bA)); refine blk_far ?_ NB209_208.out _; (with_reducible repeat (first | apply bN | apply bD | apply bA)); exact BK209.out) Try.underlying58 rfl (by kernel_rfl) (.tmp .nil)))) rfl ?_
            exact ⟨by first | rfl | (simp [errW_none, errW_some] <;> rfl) | (simp [*, errW_none, errW_some] <;> rfl), by repeat (first | (with_reducible first | exact HB.out | apply lA | apply lN | apply lD | refine lS ?_ ‹_›) | exact HB.out)⟩

end Go.Proofs.Ytladlljnpmpdpaa.PSpanNarrow
