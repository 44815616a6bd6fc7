-- Written by a program of this session (a variant of the print), for this claim. Lean checks it.
import Derived.Test.YtladlljnpmpdpaaPSpanNarrowx0
import Derived.Test.YtladlljnpmpdpaaPSpanNarrowx2
import Derived.Test.YtladlljnpmpdpaaPSpanNarrowx3
namespace Go.Proofs.Ytladlljnpmpdpaa.PSpanNarrow
open Go.RowKit Go.Proofs.YtladlljnpmpdpaaW.PrintWords Go.Proofs.YtladlljnpmpdpaaW.PrintLast Go.Proofs.YtladlljnpmpdpaaW.PrintMore
attribute [local go_sem] max2_int min2_int max_two min_two max_three min_three max_four min_four   -- for this text's walks alone
attribute [local go_sem high] Go.Proofs.Ytladlljnpmpdpaa.NotLaw.not_u64 Go.Proofs.Ytladlljnpmpdpaa.NotLaw.not_u32 Go.Proofs.Ytladlljnpmpdpaa.NotLaw.not_u16 Go.Proofs.Ytladlljnpmpdpaa.NotLaw.not_u8
set_option linter.unusedVariables false
set_option linter.unusedSimpArgs false

/-! ### span_Do: function 32 -/
mutual
def span_Do.j0 : Nat → Int → Bool → Int → Int → Int → Int → Int → Option (Int × Int × Int)
 | 0, _, _, _, _, _, _, _ => none
 | k + 1, x0, x1, x12, x130000, x130001, x131000, x131001 => if x0 = 128 then (span_Do.j1 k x0 x1 x12 x130000 x130001 x130000 x130001) else (span_Do.j1 k x0 x1 x12 x130000 x130001 x131000 x131001)
def span_Do.j1 : Nat → Int → Bool → Int → Int → Int → Int → Int → Option (Int × Int × Int)
 | 0, _, _, _, _, _, _, _ => none
 | k + 1, x0, x1, x12, x130000, x130001, x131000, x131001 => (span_one.f x131000 x131001).bind fun t142 => (if t142 = true then ((span_one.f x130000 x130001).bind fun t143 => (if t143 = true then (span_Do.j2 k x0 x1 x12 true x130000 x130001 x131000 x131001) else (if x0 = 176 then (span_Do.j2 k x0 x1 x12 true x130000 x130001 x131000 x131001) else (span_Do.j2 k x0 x1 x12 (x0 == 128) x130000 x130001 x131000 x131001)))) else (span_Do.j2 k x0 x1 x12 false x130000 x130001 x131000 x131001))
def span_Do.j2 : Nat → Int → Bool → Int → Bool → Int → Int → Int → Int → Option (Int × Int × Int)
 | 0, _, _, _, _, _, _, _, _ => none
 | k + 1, x0, x1, x12, x52, x130000, x130001, x131000, x131001 => if x52 = true then ((alu_Do.f x0 x1 x130000 x131000).bind fun bt144 => ((span_Const.f bt144.1).bind fun bt146 => (some (bt146.1, bt146.2, bt144.2)))) else ((span_do.f k x0 x12 x130000 x130001 x131000 x131001).bind fun bt148 => (if bt148.2 > x12 then (some (0, x12, 0)) else (if bt148.1 > bt148.2 then (some (0, x12, 0)) else (some (bt148.1, bt148.2, 0)))))
end
def span_Do.f (k : Nat) (a0 : Int) (a1 : Bool) (a2_0 : Int) (a2_1 : Int) (a3_0 : Int) (a3_1 : Int) : Option (Int × Int × Int) := (alu_Do.f a0 a1 0 0).bind fun bt132 => (if bt132.2 = 0 then ((span_tidy.f a2_0 a2_1).bind fun bt134 => ((span_tidy.f a3_0 a3_1).bind fun bt136 => (if a1 = true then (span_Do.j0 k a0 a1 18446744073709551615 bt134.1 bt134.2 bt136.1 bt136.2) else ((span_cut.f bt134.1 bt134.2).bind fun bt138 => ((span_cut.f bt136.1 bt136.2).bind fun bt140 => (span_Do.j0 k a0 a1 4294967295 bt138.1 bt138.2 bt140.1 bt140.2)))))) else (some (0, 0, bt132.2)))
theorem span_Do.mono_l : ∀ k, (∀ y0 y1 y2 y3 y4 y5 y6, LeO (span_Do.j0 k y0 y1 y2 y3 y4 y5 y6) (span_Do.j0 (k + 1) y0 y1 y2 y3 y4 y5 y6)) ∧ (∀ y0 y1 y2 y3 y4 y5 y6, LeO (span_Do.j1 k y0 y1 y2 y3 y4 y5 y6) (span_Do.j1 (k + 1) y0 y1 y2 y3 y4 y5 y6)) ∧ (∀ y0 y1 y2 y3 y4 y5 y6 y7, LeO (span_Do.j2 k y0 y1 y2 y3 y4 y5 y6 y7) (span_Do.j2 (k + 1) y0 y1 y2 y3 y4 y5 y6 y7))
 | 0 => ⟨fun _ _ _ _ _ _ _ r h => by simp [span_Do.j0] at h, fun _ _ _ _ _ _ _ r h => by simp [span_Do.j1] at h, fun _ _ _ _ _ _ _ _ r h => by simp [span_Do.j2] at h⟩
 | k + 1 => by
  obtain ⟨ih0, ih1, ih2⟩ := span_Do.mono_l k
  refine ⟨?_, ?_, ?_⟩
  ·
   intro y0 y1 y2 y3 y4 y5 y6
   unfold span_Do.j0
   repeat' first
   | (with_reducible exact ih0 _ _ _ _ _ _ _)
   | (with_reducible exact ih1 _ _ _ _ _ _ _)
   | (with_reducible exact ih2 _ _ _ _ _ _ _ _)
   | (with_reducible exact span_do.mono _ _ _ _ _ _ _)
   | (with_reducible exact LeO.refl _)
   | (with_reducible exact LeO.none _)
   | (with_reducible refine LeO.ite ?_ ?_)
   | (with_reducible refine LeO.bind ?_ (fun _ => ?_))
   | exact ih0 _ _ _ _ _ _ _
   | exact ih1 _ _ _ _ _ _ _
   | exact ih2 _ _ _ _ _ _ _ _
   | exact span_do.mono _ _ _ _ _ _ _
   | exact LeO.none _
   | refine LeO.ite ?_ ?_
   | refine LeO.bind ?_ (fun _ => ?_)
  ·
   intro y0 y1 y2 y3 y4 y5 y6
   unfold span_Do.j1
   repeat' first
   | (with_reducible exact ih0 _ _ _ _ _ _ _)
   | (with_reducible exact ih1 _ _ _ _ _ _ _)
   | (with_reducible exact ih2 _ _ _ _ _ _ _ _)
   | (with_reducible exact span_do.mono _ _ _ _ _ _ _)
   | (with_reducible exact LeO.refl _)
   | (with_reducible exact LeO.none _)
   | (with_reducible refine LeO.ite ?_ ?_)
   | (with_reducible refine LeO.bind ?_ (fun _ => ?_))
   | exact ih0 _ _ _ _ _ _ _
   | exact ih1 _ _ _ _ _ _ _
   | exact ih2 _ _ _ _ _ _ _ _
   | exact span_do.mono _ _ _ _ _ _ _
   | exact LeO.none _
   | refine LeO.ite ?_ ?_
   | refine LeO.bind ?_ (fun _ => ?_)
  ·
   intro y0 y1 y2 y3 y4 y5 y6 y7
   unfold span_Do.j2
   repeat' first
   | (with_reducible exact ih0 _ _ _ _ _ _ _)
   | (with_reducible exact ih1 _ _ _ _ _ _ _)
   | (with_reducible exact ih2 _ _ _ _ _ _ _ _)
   | (with_reducible exact span_do.mono _ _ _ _ _ _ _)
   | (with_reducible exact LeO.refl _)
   | (with_reducible exact LeO.none _)
   | (with_reducible refine LeO.ite ?_ ?_)
   | (with_reducible refine LeO.bind ?_ (fun _ => ?_))
   | exact ih0 _ _ _ _ _ _ _
   | exact ih1 _ _ _ _ _ _ _
   | exact ih2 _ _ _ _ _ _ _ _
   | exact span_do.mono _ _ _ _ _ _ _
   | exact LeO.none _
   | refine LeO.ite ?_ ?_
   | refine LeO.bind ?_ (fun _ => ?_)
theorem span_Do.mono : ∀ a0 a1 a2 a3 a4 a5 k, LeO (span_Do.f k a0 a1 a2 a3 a4 a5) (span_Do.f (k + 1) a0 a1 a2 a3 a4 a5) := by
 intro a0 a1 a2 a3 a4 a5 k
 obtain ⟨ih0, ih1, ih2⟩ := span_Do.mono_l k
 unfold span_Do.f
 repeat' first
   | (with_reducible exact ih0 _ _ _ _ _ _ _)
   | (with_reducible exact ih1 _ _ _ _ _ _ _)
   | (with_reducible exact ih2 _ _ _ _ _ _ _ _)
   | (with_reducible exact span_do.mono _ _ _ _ _ _ _)
   | (with_reducible exact LeO.refl _)
   | (with_reducible exact LeO.none _)
   | (with_reducible refine LeO.ite ?_ ?_)
   | (with_reducible refine LeO.bind ?_ (fun _ => ?_))
   | exact ih0 _ _ _ _ _ _ _
   | exact ih1 _ _ _ _ _ _ _
   | exact ih2 _ _ _ _ _ _ _ _
   | exact span_do.mono _ _ _ _ _ _ _
   | exact LeO.none _
   | refine LeO.ite ?_ ?_
   | refine LeO.bind ?_ (fun _ => ?_)
set_option maxHeartbeats 8000000 in
set_option maxRecDepth 100000 in
theorem span_Do.calls (k : Nat) (a0 : Int) (a1 : Bool) (a2_0 : Int) (a2_1 : Int) (a3_0 : Int) (a3_1 : Int) (r1 : Int) (r2 : Int) (r3 : Int) (w : World) (h : span_Do.f k a0 a1 a2_0 a2_1 a3_0 a3_1 = some (r1, r2, r3)) :
  Calls Try.prog 32 #[.int .i64 a0, .bool a1, .agg #[.int .u64 a2_0, .int .u64 a2_1], .agg #[.int .u64 a3_0, .int .u64 a3_1]] w fun e w' => e = .returned (.tuple #[.agg #[.int .u64 r1, .int .u64 r2], .int .i64 r3]) ∧ Below w.heap.size w w' := by
 have hu58 := Try.underlying58
 have HB := Aside0.mk (Below.refl w.heap.size w)
 have H : ((alu_Do.f a0 a1 0 0).bind fun bt132 => (if bt132.2 = 0 then ((span_tidy.f a2_0 a2_1).bind fun bt134 => ((span_tidy.f a3_0 a3_1).bind fun bt136 => (if a1 = true then (span_Do.j0 k a0 a1 18446744073709551615 bt134.1 bt134.2 bt136.1 bt136.2) else ((span_cut.f bt134.1 bt134.2).bind fun bt138 => ((span_cut.f bt136.1 bt136.2).bind fun bt140 => (span_Do.j0 k a0 a1 4294967295 bt138.1 bt138.2 bt140.1 bt140.2)))))) else (some (0, 0, bt132.2)))) = some (r1, r2, r3) := h
 clear h; replace H := Option.bind_eq_some_iff.mp H; obtain ⟨⟨t132, t133⟩, A50, H⟩ := H
 replace H : (if t133 = 0 then ((span_tidy.f a2_0 a2_1).bind fun bt134 => ((span_tidy.f a3_0 a3_1).bind fun bt136 => (if a1 = true then (span_Do.j0 k a0 a1 18446744073709551615 bt134.1 bt134.2 bt136.1 bt136.2) else ((span_cut.f bt134.1 bt134.2).bind fun bt138 => ((span_cut.f bt136.1 bt136.2).bind fun bt140 => (span_Do.j0 k a0 a1 4294967295 bt138.1 bt138.2 bt140.1 bt140.2)))))) else (some (0, 0, t133))) = some (r1, r2, r3) := H
 have A5 := Aside0.mk A50; clear A50
 by_cases c6 : t133 = 0
 ·
  rw [if_pos c6] at H
  have c6b0 : (t133 == 0) = true := beq_iff_eq.mpr c6; have c6b1 : (t133 != 0) = false := bne_eq_false_iff_eq.mpr c6; clear c6; replace H := Option.bind_eq_some_iff.mp H; obtain ⟨⟨t134, t135⟩, A70, H⟩ := H
  replace H : ((span_tidy.f a3_0 a3_1).bind fun bt136 => (if a1 = true then (span_Do.j0 k a0 a1 18446744073709551615 t134 t135 bt136.1 bt136.2) else ((span_cut.f t134 t135).bind fun bt138 => ((span_cut.f bt136.1 bt136.2).bind fun bt140 => (span_Do.j0 k a0 a1 4294967295 bt138.1 bt138.2 bt140.1 bt140.2))))) = some (r1, r2, r3) := H
  have A7 := Aside0.mk A70; clear A70; replace H := Option.bind_eq_some_iff.mp H; obtain ⟨⟨t136, t137⟩, A80, H⟩ := H
  replace H : (if a1 = true then (span_Do.j0 k a0 a1 18446744073709551615 t134 t135 t136 t137) else ((span_cut.f t134 t135).bind fun bt138 => ((span_cut.f t136 t137).bind fun bt140 => (span_Do.j0 k a0 a1 4294967295 bt138.1 bt138.2 bt140.1 bt140.2)))) = some (r1, r2, r3) := H
  have A8 := Aside0.mk A80; clear A80
  have HC9 := Aside0.mk H
  clear H
  go_enter Try.func32, Try.ntmps32
  try go_wp2_with (first | ((with_reducible refine gate_dst (N := 6) rfl ?_); refine box_event ?hg (N := 6) ?hd (cs := #[.int .u64 a2_0, .int .u64 a2_1]) (t := 58) ?hr ?_; (case hd => rfl); (case hg => rfl); (case hr => first | (go_simp; done) | (go_simp; rfl)); intro gb129 hg w10 hbox hb; have n0_ := Aside0.mk (below_step (by repeat (first | (with_reducible first | exact HB.out | apply lA | apply lN | apply lD) | exact HB.out)) hb); have n1_ := Aside0.mk (hbox); have n2_ := Aside0.mk ((by rw [hg]; exact (below_size (by repeat (first | (with_reducible first | exact HB.out | apply lA | apply lN | apply lD) | exact HB.out))) : w.heap.size ≤ gb129)); have n3_ := n2_; clear HB; have HB := n0_; have BK129 := n1_; have GW129 := n2_; have GE129 := n3_; clear n0_ n1_ n2_ n3_; clear hb hbox hg) | ((with_reducible refine gate_dst (N := 7) rfl ?_); refine box_event ?hg (N := 7) ?hd (cs := #[.int .u64 a3_0, .int .u64 a3_1]) (t := 58) ?hr ?_; (case hd => rfl); (case hg => rfl); (case hr => first | (go_simp; done) | (go_simp; rfl)); intro gb130 hg w11 hbox hb; have n0_ := Aside0.mk (blk_below (g := gb129) (o := .cells #[.int .u64 a2_0, .int .u64 a2_1] 58 (0, 0)) (by (with_reducible repeat (first | apply bN | apply bD | apply bA)); exact BK129.out) hb); have n1_ := Aside0.mk (below_step (by repeat (first | (with_reducible first | exact HB.out | apply lA | apply lN | apply lD | refine lS ?_ ‹_›) | exact HB.out)) hb); have n2_ := Aside0.mk (hbox); have n3_ := Aside0.mk ((by rw [hg]; exact (below_size (by repeat (first | (with_reducible first | exact HB.out | apply lA | apply lN | apply lD | refine lS ?_ ‹_›) | exact HB.out))) : w.heap.size ≤ gb130)); have n4_ := n3_; have n5_ := Aside0.mk ((by rw [hg]; exact Nat.ne_of_lt (blk_lt (g := gb129) (o := .cells #[.int .u64 a2_0, .int .u64 a2_1] 58 (0, 0)) (by (with_reducible repeat (first | apply bN | apply bD | apply bA)); exact BK129.out)) : gb129 ≠ gb130)); have n6_ := sy n5_; clear BK129; clear HB; have BK129 := n0_; have HB := n1_; have BK130 := n2_; have GW130 := n3_; have GE130 := n4_; have NB129_130 := n5_; have NB130_129 := n6_; clear n0_ n1_ n2_ n3_ n4_ n5_ n6_; clear hb hbox hg) | ((with_reducible refine gate_dst (N := 8) rfl ?_); refine box_event ?hg (N := 8) ?hd (cs := #[.int .u64 0, .int .u64 0]) (t := 58) ?hr ?_; (case hd => rfl); (case hg => rfl); (case hr => first | (go_simp; done) | (go_simp; rfl)); intro gb131 hg w12 hbox hb; have n0_ := Aside0.mk (blk_below (g := gb129) (o := .cells #[.int .u64 a2_0, .int .u64 a2_1] 58 (0, 0)) (by (with_reducible repeat (first | apply bN | apply bD | apply bA)); exact BK129.out) hb); have n1_ := Aside0.mk (blk_below (g := gb130) (o := .cells #[.int .u64 a3_0, .int .u64 a3_1] 58 (0, 0)) (by (with_reducible repeat (first | apply bN | apply bD | apply bA)); exact BK130.out) hb); have n2_ := Aside0.mk (below_step (by repeat (first | (with_reducible first | exact HB.out | apply lA | apply lN | apply lD | refine lS ?_ ‹_›) | exact HB.out)) hb); have n3_ := Aside0.mk (hbox); have n4_ := Aside0.mk ((by rw [hg]; exact (below_size (by repeat (first | (with_reducible first | exact HB.out | apply lA | apply lN | apply lD | refine lS ?_ ‹_›) | exact HB.out))) : w.heap.size ≤ gb131)); have n5_ := n4_; have n6_ := Aside0.mk ((by rw [hg]; exact Nat.ne_of_lt (blk_lt (g := gb129) (o := .cells #[.int .u64 a2_0, .int .u64 a2_1] 58 (0, 0)) (by (with_reducible repeat (first | apply bN | apply bD | apply bA)); exact BK129.out)) : gb129 ≠ gb131)); have n7_ := sy n6_; have n8_ := Aside0.mk ((by rw [hg]; exact Nat.ne_of_lt (blk_lt (g := gb130) (o := .cells #[.int .u64 a3_0, .int .u64 a3_1] 58 (0, 0)) (by (with_reducible repeat (first | apply bN | apply bD | apply bA)); exact BK130.out)) : gb130 ≠ gb131)); have n9_ := sy n8_; clear BK129; clear BK130; clear HB; have BK129 := n0_; have BK130 := n1_; have HB := n2_; have BK131 := n3_; have GW131 := n4_; have GE131 := n5_; have NB129_131 := n6_; have NB131_129 := n7_; have NB130_131 := n8_; have NB131_130 := n9_; clear n0_ n1_ n2_ n3_ n4_ n5_ n6_ n7_ n8_ n9_; clear hb hbox hg) | ((with_reducible refine gate_callee (f := 42) rfl ?_); refine goesL_ (some 19) rfl rfl Try.func42 (by kernel_rfl) rfl #[.int .i64 a0, .bool a1, .int .u64 0, .int .u64 0] rfl (by (try simp only [List.map_toArray, List.map_cons, List.map_nil]); first | done | rfl | (simp only [List.length_drop, List.length_take]; rfl)) ?_; (with_reducible refine (alu_Do.calls a0 a1 0 0 t132 t133 _ A5.out).mono ?_); rintro e w' ⟨rfl, ⟨nd, rfl⟩⟩; refine ⟨_, rfl, ?_⟩; (try (rw [drewN_self w12]; generalize hq_ : World.drewN w12 _ = w12; have n0_ : Aside0 (w12.heap[gb129]? = some (.cells #[.int .u64 a2_0, .int .u64 a2_1] 58 (0, 0))) := ⟨by rw [← hq_]; exact (by (with_reducible repeat (first | apply bN | apply bD | apply bA)); exact BK129.out)⟩; have n1_ : Aside0 (w12.heap[gb130]? = some (.cells #[.int .u64 a3_0, .int .u64 a3_1] 58 (0, 0))) := ⟨by rw [← hq_]; exact (by (with_reducible repeat (first | apply bN | apply bD | apply bA)); exact BK130.out)⟩; have n2_ : Aside0 (w12.heap[gb131]? = some (.cells #[.int .u64 0, .int .u64 0] 58 (0, 0))) := ⟨by rw [← hq_]; exact (by (with_reducible repeat (first | apply bN | apply bD | apply bA)); exact BK131.out)⟩; have n3_ : Aside0 (Below w.heap.size w w12) := ⟨by rw [← hq_]; exact (by repeat (first | (with_reducible first | exact HB.out | apply lA | apply lN | apply lD | refine lS ?_ ‹_›) | exact HB.out))⟩; clear BK129 BK130 BK131 HB hq_; have BK129 := n0_; have BK130 := n1_; have BK131 := n2_; have HB := n3_; clear n0_ n1_ n2_ n3_))))
  have n0_ := Aside0.mk (blk_drew BK129.out); have n1_ := Aside0.mk (blk_drew BK130.out); have n2_ := Aside0.mk (blk_drew BK131.out)
  have n3_ := Aside0.mk (below_drew1 HB.out)
  clear BK129; clear BK130; clear BK131; clear HB; have BK129 := n0_; have BK130 := n1_; have BK131 := n2_; have HB := n3_; clear n0_ n1_ n2_ n3_
  refine start_ (n := 6) (S := fun w' => w'.cell? ⟨gb129, 0, none⟩ = some (.int .u64 a2_0) ∧ w'.cell? ⟨gb129, 1, none⟩ = some (.int .u64 a2_1) ∧ w'.cell? ⟨gb130, 0, none⟩ = some (.int .u64 a3_0) ∧ w'.cell? ⟨gb130, 1, none⟩ = some (.int .u64 a3_1)) (ds := [4, 5]) #[false, false, false, false, false, false] (by kernel_rfl) rfl rfl ⟨(blk_cell BK129.out 0).trans rfl, (blk_cell BK129.out 1).trans rfl, (blk_cell BK130.out 0).trans rfl, (blk_cell BK130.out 1).trans rfl⟩ (fun hHeld => ?_)
  generalize w12.drew = w13 at BK129 BK130 BK131 HB hHeld ⊢
  refine take_ (i := 0) (N := some 26) (v := ?_) (a' := ?_) #[true, false, false, false, false, false] rfl rfl (by kernel_rfl) (fun _ _ _ h => h) (Or.inl ⟨by rfl, ?_⟩) hHeld ?_ ?_
  rotate_left
  ·
   rintro w' ⟨s0, s1, s2, s3⟩
   go_simp; with_reducible rfl
  rotate_left
  ·
   simp only [Act.put, List.setIfInBounds_toArray, List.set_cons_zero, List.set_cons_succ, i64_w, i32_w]
   rfl
  refine take_ (i := 2) (N := some 28) (v := ?_) (a' := ?_) #[true, false, true, false, false, false] rfl rfl (by kernel_rfl) (fun _ _ _ h => h) (Or.inl ⟨by rfl, ?_⟩) hHeld ?_ ?_
  rotate_left
  ·
   rintro w' ⟨s0, s1, s2, s3⟩
   go_simp; with_reducible rfl
  rotate_left
  ·
   simp only [Act.put, List.setIfInBounds_toArray, List.set_cons_zero, List.set_cons_succ, i64_w, i32_w]
   rfl
  refine one_ (i := 1) (N := some 27) #[true, true, true, false, false, false] rfl rfl (by kernel_rfl) (by decide) (fun K hK => ?_)
  refine goes_ Try.func48 (by kernel_rfl) rfl #[.agg #[.int .u64 a2_0, .int .u64 a2_1]] (by rfl) rfl rfl (by (try simp only [List.map_toArray, List.map_cons, List.map_nil]); first | done | rfl | (simp only [List.length_drop, List.length_take]; rfl)) ?_
  with_reducible refine (span_tidy.calls a2_0 a2_1 t134 t135 _ A7.out).mono ?_
  rintro e w14 ⟨rfl, hb⟩
  refine ⟨_, rfl, ?_⟩
  have n0_ := Aside0.mk (blk_below (g := gb129) (o := .cells #[.int .u64 a2_0, .int .u64 a2_1] 58 (0, 0)) (by (with_reducible repeat (first | apply bN | apply bD | apply bA)); exact BK129.out) hb)
  have n1_ := Aside0.mk (blk_below (g := gb130) (o := .cells #[.int .u64 a3_0, .int .u64 a3_1] 58 (0, 0)) (by (with_reducible repeat (first | apply bN | apply bD | apply bA)); exact BK130.out) hb)
  have n2_ := Aside0.mk (blk_below (g := gb131) (o := .cells #[.int .u64 0, .int .u64 0] 58 (0, 0)) (by (with_reducible repeat (first | apply bN | apply bD | apply bA)); exact BK131.out) hb)
  have n3_ := Aside0.mk (below_step (by repeat (first | (with_reducible first | exact HB.out | apply lA | apply lN | apply lD | refine lS ?_ ‹_›) | exact HB.out)) hb)
  clear BK129; clear BK130; clear BK131; clear HB; have BK129 := n0_; have BK130 := n1_; have BK131 := n2_; have HB := n3_; clear n0_ n1_ n2_ n3_
  (try clear hb)
  (try clear hb2)
  (try clear hk)
  (try clear hi)
  refine hK.out _ _ ⟨(blk_cell BK129.out 0).trans rfl, (blk_cell BK129.out 1).trans rfl, (blk_cell BK130.out 0).trans rfl, (blk_cell BK130.out 1).trans rfl⟩ (fun hHeld => ?_)
  clear hK K
  refine norm_ (a' := ?_) ?_ ?_
  rotate_left
  ·
   show Act.put _ (some 27) _ = _
   simp only [Act.put, List.setIfInBounds_toArray, List.set_cons_zero, List.set_cons_succ, i64_w, i32_w]
   rfl
  refine one_ (i := 3) (N := some 29) #[true, true, true, true, false, false] rfl rfl (by kernel_rfl) (by decide) (fun K hK => ?_)
  refine goes_ Try.func48 (by kernel_rfl) rfl #[.agg #[.int .u64 a3_0, .int .u64 a3_1]] (by rfl) rfl rfl (by (try simp only [List.map_toArray, List.map_cons, List.map_nil]); first | done | rfl | (simp only [List.length_drop, List.length_take]; rfl)) ?_
  with_reducible refine (span_tidy.calls a3_0 a3_1 t136 t137 _ A8.out).mono ?_
  rintro e w15 ⟨rfl, hb⟩
  refine ⟨_, rfl, ?_⟩
  have n0_ := Aside0.mk (blk_below (g := gb129) (o := .cells #[.int .u64 a2_0, .int .u64 a2_1] 58 (0, 0)) (by (with_reducible repeat (first | apply bN | apply bD | apply bA)); exact BK129.out) hb)
  have n1_ := Aside0.mk (blk_below (g := gb130) (o := .cells #[.int .u64 a3_0, .int .u64 a3_1] 58 (0, 0)) (by (with_reducible repeat (first | apply bN | apply bD | apply bA)); exact BK130.out) hb)
  have n2_ := Aside0.mk (blk_below (g := gb131) (o := .cells #[.int .u64 0, .int .u64 0] 58 (0, 0)) (by (with_reducible repeat (first | apply bN | apply bD | apply bA)); exact BK131.out) hb)
  have n3_ := Aside0.mk (below_step (by repeat (first | (with_reducible first | exact HB.out | apply lA | apply lN | apply lD | refine lS ?_ ‹_›) | exact HB.out)) hb)
  clear BK129; clear BK130; clear BK131; clear HB; have BK129 := n0_; have BK130 := n1_; have BK131 := n2_; have HB := n3_; clear n0_ n1_ n2_ n3_
  (try clear hb)
  (try clear hb2)
  (try clear hk)
  (try clear hi)
  refine hK.out _ _ ⟨(blk_cell BK129.out 0).trans rfl, (blk_cell BK129.out 1).trans rfl, (blk_cell BK130.out 0).trans rfl, (blk_cell BK130.out 1).trans rfl⟩ (fun hHeld => ?_)
  clear hK K
  refine norm_ (a' := ?_) ?_ ?_
  rotate_left
  ·
   show Act.put _ (some 29) _ = _
   simp only [Act.put, List.setIfInBounds_toArray, List.set_cons_zero, List.set_cons_succ, i64_w, i32_w]
   rfl
  refine last_ (i := 4) (N := none) #[true, true, true, true, true, false] rfl rfl (by kernel_rfl) (by decide) (fun K hK => ?_)
  have hs16 : w15.cell? ⟨gb129, 0, none⟩ = some (.int .u64 a2_0) := (blk_cell BK129.out 0).trans rfl
  have hfs16 := blk_frozen BK129.out 0
  have hns16_1 := NB130_129.out
  have hns16_2 := NB131_129.out
  have hms16_1 := NB129_130.out
  have hms16_2 := NB129_131.out
  have hs17 : w15.cell? ⟨gb129, 1, none⟩ = some (.int .u64 a2_1) := (blk_cell BK129.out 1).trans rfl
  have hfs17 := blk_frozen BK129.out 1
  have hns17_1 := NB130_129.out
  have hns17_2 := NB131_129.out
  have hms17_1 := NB129_130.out
  have hms17_2 := NB129_131.out
  refine skip_ (w1 := ?_) (by rfl) rfl ?_ ?_
  rotate_left
  ·
   go_simp
   rfl
  refine hK.out _ _ ?_
  clear hK K
  refine last_ (i := 5) (N := none) #[true, true, true, true, true, true] rfl rfl (by kernel_rfl) (by decide) (fun K hK => ?_)
  have hs18 : w15.cell? ⟨gb130, 0, none⟩ = some (.int .u64 a3_0) := (blk_cell BK130.out 0).trans rfl
  have hfs18 := blk_frozen BK130.out 0
  have hns18_0 := NB129_130.out
  have hns18_2 := NB131_130.out
  have hms18_0 := NB130_129.out
  have hms18_2 := NB130_131.out
  have hs19 : w15.cell? ⟨gb130, 1, none⟩ = some (.int .u64 a3_1) := (blk_cell BK130.out 1).trans rfl
  have hfs19 := blk_frozen BK130.out 1
  have hns19_0 := NB129_130.out
  have hns19_2 := NB131_130.out
  have hms19_0 := NB130_129.out
  have hms19_2 := NB130_131.out
  refine skip_ (w1 := ?_) (by rfl) rfl ?_ ?_
  rotate_left
  ·
   go_simp
   rfl
  refine hK.out _ _ ?_
  clear hK K
  refine done_ (by kernel_rfl) ?_
  go_upto_if 31 with (fail)
  go_cut [12] (fun v12 wc => ∃ (kq : Nat) (x12_8 : Int) (x130000_8 : Int) (x130001_8 : Int) (x131000_8 : Int) (x131001_8 : Int), v12 = .int .u64 x12_8 ∧ Aside0 (span_Do.j0 kq a0 a1 x12_8 x130000_8 x130001_8 x131000_8 x131001_8 = some (r1, r2, r3)) ∧ Aside0 (kq ≤ k) ∧ Aside0 (wc.heap[gb129]? = some (.cells #[.int .u64 x130000_8, .int .u64 x130001_8] 58 (0, 0))) ∧ Aside0 (wc.heap[gb130]? = some (.cells #[.int .u64 x131000_8, .int .u64 x131001_8] 58 (0, 0))) ∧ Aside0 (wc.heap[gb131]? = some (.cells #[.int .u64 0, .int .u64 0] 58 (0, 0))) ∧ Aside0 (Below w.heap.size w wc))
  case first =>
   have H := HC9.out
   clear HC9
   by_cases c20 : a1 = true
   ·
    subst c20
    have H1 : (span_Do.j0 k a0 true 18446744073709551615 t134 t135 t136 t137) = some (r1, r2, r3) := by rw [if_pos rfl] at H; exact H
    clear H; have H := H1; clear H1
    have H' := Aside0.mk H
    clear H
    go_wp2
    go_meet
    case rel => exact ⟨_, (18446744073709551615), (t134), (t135), (t136), (t137), (by first | rfl | (simp; done) | (simp [*]; done)), H', ⟨by first | omega | exact Nat.le_refl _⟩, ⟨by (with_reducible repeat (first | apply bN | apply bD | apply bA)); refine blk_far ?_ NB129_130.out _; (with_reducible repeat (first | apply bN | apply bD | apply bA)); refine blk_far ?_ NB129_130.out _; (with_reducible repeat (first | apply bN | apply bD | apply bA)); refine blk_put (cs := #[.int .u64 t134, .int .u64 a2_1]) ?_ 1 _ rfl; (with_reducible repeat (first | apply bN | apply bD | apply bA)); refine blk_put (cs := #[.int .u64 a2_0, .int .u64 a2_1]) ?_ 0 _ rfl; (with_reducible repeat (first | apply bN | apply bD | apply bA)); exact BK129.out⟩, ⟨by (with_reducible repeat (first | apply bN | apply bD | apply bA)); refine blk_put (cs := #[.int .u64 t136, .int .u64 a3_1]) ?_ 1 _ rfl; (with_reducible repeat (first | apply bN | apply bD | apply bA)); refine blk_put (cs := #[.int .u64 a3_0, .int .u64 a3_1]) ?_ 0 _ rfl; (with_reducible repeat (first | apply bN | apply bD | apply bA)); refine blk_far ?_ NB130_129.out _; (with_reducible repeat (first | apply bN | apply bD | apply bA)); refine blk_far ?_ NB130_129.out _; (with_reducible repeat (first | apply bN | apply bD | apply bA)); exact BK130.out⟩, ⟨by (with_reducible repeat (first | apply bN | apply bD | apply bA)); refine blk_far ?_ NB131_130.out _; (with_reducible repeat (first | apply bN | apply bD | apply bA)); refine blk_far ?_ NB131_130.out _; (with_reducible repeat (first | apply bN | apply bD | apply bA)); refine blk_far ?_ NB131_129.out _; (with_reducible repeat (first | apply bN | apply bD | apply bA)); refine blk_far ?_ NB131_129.out _; (with_reducible repeat (first | apply bN | apply bD | apply bA)); exact BK131.out⟩, ⟨by repeat (first | (with_reducible first | exact HB.out | apply lA | apply lN | apply lD | refine lS ?_ ‹_›) | exact HB.out)⟩⟩
   ·
    replace c20 := Bool.eq_false_iff.mpr c20
    subst c20
    have H1 : ((span_cut.f t134 t135).bind fun bt138 => ((span_cut.f t136 t137).bind fun bt140 => (span_Do.j0 k a0 false 4294967295 bt138.1 bt138.2 bt140.1 bt140.2))) = some (r1, r2, r3) := by rw [if_neg (show ¬ (false = true) by decide)] at H; exact H
    clear H; have H := H1; clear H1; replace H := Option.bind_eq_some_iff.mp H; obtain ⟨⟨t138, t139⟩, A210, H⟩ := H
    replace H : ((span_cut.f t136 t137).bind fun bt140 => (span_Do.j0 k a0 false 4294967295 t138 t139 bt140.1 bt140.2)) = some (r1, r2, r3) := H
    have A21 := Aside0.mk A210; clear A210; replace H := Option.bind_eq_some_iff.mp H; obtain ⟨⟨t140, t141⟩, A220, H⟩ := H
    replace H : (span_Do.j0 k a0 false 4294967295 t138 t139 t140 t141) = some (r1, r2, r3) := H
    have A22 := Aside0.mk A220; clear A220
    have H' := Aside0.mk H
    clear H
    try go_wp2
    have n0_ : Aside0 (((((w15.setCell ⟨gb129, 0, none⟩ (.int .u64 t134)).setCell ⟨gb129, 1, none⟩ (.int .u64 t135)).setCell ⟨gb130, 0, none⟩ (.int .u64 t136)).setCell ⟨gb130, 1, none⟩ (.int .u64 t137)).heap[gb129]? = some (.cells #[.int .u64 t134, .int .u64 t135] 58 (0, 0))) := ⟨by (with_reducible repeat (first | apply bN | apply bD | apply bA)); refine blk_far ?_ NB129_130.out _; (with_reducible repeat (first | apply bN | apply bD | apply bA)); refine blk_far ?_ NB129_130.out _; (with_reducible repeat (first | apply bN | apply bD | apply bA)); refine blk_put (cs := #[.int .u64 t134, .int .u64 a2_1]) ?_ 1 _ rfl; (with_reducible repeat (first | apply bN | apply bD | apply bA)); refine blk_put (cs := #[.int .u64 a2_0, .int .u64 a2_1]) ?_ 0 _ rfl; (with_reducible repeat (first | apply bN | apply bD | apply bA)); exact BK129.out⟩
    have n1_ : Aside0 (((((w15.setCell ⟨gb129, 0, none⟩ (.int .u64 t134)).setCell ⟨gb129, 1, none⟩ (.int .u64 t135)).setCell ⟨gb130, 0, none⟩ (.int .u64 t136)).setCell ⟨gb130, 1, none⟩ (.int .u64 t137)).heap[gb130]? = some (.cells #[.int .u64 t136, .int .u64 t137] 58 (0, 0))) := ⟨by (with_reducible repeat (first | apply bN | apply bD | apply bA)); refine blk_put (cs := #[.int .u64 t136, .int .u64 a3_1]) ?_ 1 _ rfl; (with_reducible repeat (first | apply bN | apply bD | apply bA)); refine blk_put (cs := #[.int .u64 a3_0, .int .u64 a3_1]) ?_ 0 _ rfl; (with_reducible repeat (first | apply bN | apply bD | apply bA)); refine blk_far ?_ NB130_129.out _; (with_reducible repeat (first | apply bN | apply bD | apply bA)); refine blk_far ?_ NB130_129.out _; (with_reducible repeat (first | apply bN | apply bD | apply bA)); exact BK130.out⟩
    have n2_ : Aside0 (((((w15.setCell ⟨gb129, 0, none⟩ (.int .u64 t134)).setCell ⟨gb129, 1, none⟩ (.int .u64 t135)).setCell ⟨gb130, 0, none⟩ (.int .u64 t136)).setCell ⟨gb130, 1, none⟩ (.int .u64 t137)).heap[gb131]? = some (.cells #[.int .u64 0, .int .u64 0] 58 (0, 0))) := ⟨by (with_reducible repeat (first | apply bN | apply bD | apply bA)); refine blk_far ?_ NB131_130.out _; (with_reducible repeat (first | apply bN | apply bD | apply bA)); refine blk_far ?_ NB131_130.out _; (with_reducible repeat (first | apply bN | apply bD | apply bA)); refine blk_far ?_ NB131_129.out _; (with_reducible repeat (first | apply bN | apply bD | apply bA)); refine blk_far ?_ NB131_129.out _; (with_reducible repeat (first | apply bN | apply bD | apply bA)); exact BK131.out⟩
    have n3_ : Aside0 (Below w.heap.size w ((((w15.setCell ⟨gb129, 0, none⟩ (.int .u64 t134)).setCell ⟨gb129, 1, none⟩ (.int .u64 t135)).setCell ⟨gb130, 0, none⟩ (.int .u64 t136)).setCell ⟨gb130, 1, none⟩ (.int .u64 t137))) := ⟨by repeat (first | (with_reducible first | exact HB.out | apply lA | apply lN | apply lD | refine lS ?_ ‹_›) | exact HB.out)⟩
    (try clear BK129)
    (try clear BK130)
    (try clear BK131)
    (try clear HB)
    generalize ((((w15.setCell ⟨gb129, 0, none⟩ (.int .u64 t134)).setCell ⟨gb129, 1, none⟩ (.int .u64 t135)).setCell ⟨gb130, 0, none⟩ (.int .u64 t136)).setCell ⟨gb130, 1, none⟩ (.int .u64 t137)) = w23 at n0_ n1_ n2_ n3_ ⊢
    have BK129 := n0_; have BK130 := n1_; have BK131 := n2_; have HB := n3_; clear n0_ n1_ n2_ n3_; have n0_ := Aside0.mk (blk_drew BK129.out); have n1_ := Aside0.mk (blk_drew BK130.out); have n2_ := Aside0.mk (blk_drew BK131.out)
    have n3_ := Aside0.mk (below_drew1 HB.out)
    clear BK129; clear BK130; clear BK131; clear HB; have BK129 := n0_; have BK130 := n1_; have BK131 := n2_; have HB := n3_; clear n0_ n1_ n2_ n3_
    refine start_ (n := 7) (S := fun w' => w'.cell? ⟨gb129, 0, none⟩ = some (.int .u64 t134) ∧ w'.cell? ⟨gb129, 1, none⟩ = some (.int .u64 t135) ∧ w'.cell? ⟨gb130, 0, none⟩ = some (.int .u64 t136) ∧ w'.cell? ⟨gb130, 1, none⟩ = some (.int .u64 t137)) (ds := [4, 5]) #[false, false, false, false, false, false, false] (by kernel_rfl) rfl rfl ⟨(blk_cell BK129.out 0).trans rfl, (blk_cell BK129.out 1).trans rfl, (blk_cell BK130.out 0).trans rfl, (blk_cell BK130.out 1).trans rfl⟩ (fun hHeld => ?_)
    generalize w23.drew = w24 at BK129 BK130 BK131 HB hHeld ⊢
    refine take_ (i := 0) (N := some 32) (v := ?_) (a' := ?_) #[true, false, false, false, false, false, false] rfl rfl (by kernel_rfl) (fun _ _ _ h => h) (Or.inl ⟨by rfl, ?_⟩) hHeld ?_ ?_
    rotate_left
    ·
     rintro w' ⟨s0, s1, s2, s3⟩
     go_simp; with_reducible rfl
    rotate_left
    ·
     simp only [Act.put, List.setIfInBounds_toArray, List.set_cons_zero, List.set_cons_succ, i64_w, i32_w]
     rfl
    refine take_ (i := 2) (N := some 34) (v := ?_) (a' := ?_) #[true, false, true, false, false, false, false] rfl rfl (by kernel_rfl) (fun _ _ _ h => h) (Or.inl ⟨by rfl, ?_⟩) hHeld ?_ ?_
    rotate_left
    ·
     rintro w' ⟨s0, s1, s2, s3⟩
     go_simp; with_reducible rfl
    rotate_left
    ·
     simp only [Act.put, List.setIfInBounds_toArray, List.set_cons_zero, List.set_cons_succ, i64_w, i32_w]
     rfl
    refine one_ (i := 1) (N := some 33) #[true, true, true, false, false, false, false] rfl rfl (by kernel_rfl) (by decide) (fun K hK => ?_)
    refine goes_ Try.func49 (by kernel_rfl) rfl #[.agg #[.int .u64 t134, .int .u64 t135]] (by rfl) rfl rfl (by (try simp only [List.map_toArray, List.map_cons, List.map_nil]); first | done | rfl | (simp only [List.length_drop, List.length_take]; rfl)) ?_
    with_reducible refine (span_cut.calls t134 t135 t138 t139 _ A21.out).mono ?_
    rintro e w25 ⟨rfl, hb⟩
    refine ⟨_, rfl, ?_⟩
    have n0_ := Aside0.mk (blk_below (g := gb129) (o := .cells #[.int .u64 t134, .int .u64 t135] 58 (0, 0)) (by (with_reducible repeat (first | apply bN | apply bD | apply bA)); exact BK129.out) hb)
    have n1_ := Aside0.mk (blk_below (g := gb130) (o := .cells #[.int .u64 t136, .int .u64 t137] 58 (0, 0)) (by (with_reducible repeat (first | apply bN | apply bD | apply bA)); exact BK130.out) hb)
    have n2_ := Aside0.mk (blk_below (g := gb131) (o := .cells #[.int .u64 0, .int .u64 0] 58 (0, 0)) (by (with_reducible repeat (first | apply bN | apply bD | apply bA)); exact BK131.out) hb)
    have n3_ := Aside0.mk (below_step (by repeat (first | (with_reducible first | exact HB.out | apply lA | apply lN | apply lD | refine lS ?_ ‹_›) | exact HB.out)) hb)
    clear BK129; clear BK130; clear BK131; clear HB; have BK129 := n0_; have BK130 := n1_; have BK131 := n2_; have HB := n3_; clear n0_ n1_ n2_ n3_
    (try clear hb)
    (try clear hb2)
    (try clear hk)
    (try clear hi)
    refine hK.out _ _ ⟨(blk_cell BK129.out 0).trans rfl, (blk_cell BK129.out 1).trans rfl, (blk_cell BK130.out 0).trans rfl, (blk_cell BK130.out 1).trans rfl⟩ (fun hHeld => ?_)
    clear hK K
    refine norm_ (a' := ?_) ?_ ?_
    rotate_left
    ·
     show Act.put _ (some 33) _ = _
     simp only [Act.put, List.setIfInBounds_toArray, List.set_cons_zero, List.set_cons_succ, i64_w, i32_w]
     rfl
    refine one_ (i := 3) (N := some 35) #[true, true, true, true, false, false, false] rfl rfl (by kernel_rfl) (by decide) (fun K hK => ?_)
    refine goes_ Try.func49 (by kernel_rfl) rfl #[.agg #[.int .u64 t136, .int .u64 t137]] (by rfl) rfl rfl (by (try simp only [List.map_toArray, List.map_cons, List.map_nil]); first | done | rfl | (simp only [List.length_drop, List.length_take]; rfl)) ?_
    with_reducible refine (span_cut.calls t136 t137 t140 t141 _ A22.out).mono ?_
    rintro e w26 ⟨rfl, hb⟩
    refine ⟨_, rfl, ?_⟩
    have n0_ := Aside0.mk (blk_below (g := gb129) (o := .cells #[.int .u64 t134, .int .u64 t135] 58 (0, 0)) (by (with_reducible repeat (first | apply bN | apply bD | apply bA)); exact BK129.out) hb)
    have n1_ := Aside0.mk (blk_below (g := gb130) (o := .cells #[.int .u64 t136, .int .u64 t137] 58 (0, 0)) (by (with_reducible repeat (first | apply bN | apply bD | apply bA)); exact BK130.out) hb)
    have n2_ := Aside0.mk (blk_below (g := gb131) (o := .cells #[.int .u64 0, .int .u64 0] 58 (0, 0)) (by (with_reducible repeat (first | apply bN | apply bD | apply bA)); exact BK131.out) hb)
    have n3_ := Aside0.mk (below_step (by repeat (first | (with_reducible first | exact HB.out | apply lA | apply lN | apply lD | refine lS ?_ ‹_›) | exact HB.out)) hb)
    clear BK129; clear BK130; clear BK131; clear HB; have BK129 := n0_; have BK130 := n1_; have BK131 := n2_; have HB := n3_; clear n0_ n1_ n2_ n3_
    (try clear hb)
    (try clear hb2)
    (try clear hk)
    (try clear hi)
    refine hK.out _ _ ⟨(blk_cell BK129.out 0).trans rfl, (blk_cell BK129.out 1).trans rfl, (blk_cell BK130.out 0).trans rfl, (blk_cell BK130.out 1).trans rfl⟩ (fun hHeld => ?_)
    clear hK K
    refine norm_ (a' := ?_) ?_ ?_
    rotate_left
    ·
     show Act.put _ (some 35) _ = _
     simp only [Act.put, List.setIfInBounds_toArray, List.set_cons_zero, List.set_cons_succ, i64_w, i32_w]
     rfl
    refine last_ (i := 4) (N := none) #[true, true, true, true, true, false, false] rfl rfl (by kernel_rfl) (by decide) (fun K hK => ?_)
    have hs27 : w26.cell? ⟨gb129, 0, none⟩ = some (.int .u64 t134) := (blk_cell BK129.out 0).trans rfl
    have hfs27 := blk_frozen BK129.out 0
    have hns27_1 := NB130_129.out
    have hns27_2 := NB131_129.out
    have hms27_1 := NB129_130.out
    have hms27_2 := NB129_131.out
    have hs28 : w26.cell? ⟨gb129, 1, none⟩ = some (.int .u64 t135) := (blk_cell BK129.out 1).trans rfl
    have hfs28 := blk_frozen BK129.out 1
    have hns28_1 := NB130_129.out
    have hns28_2 := NB131_129.out
    have hms28_1 := NB129_130.out
    have hms28_2 := NB129_131.out
    refine skip_ (w1 := ?_) (by rfl) rfl ?_ ?_
    rotate_left
    ·
     go_simp
     rfl
    refine hK.out _ _ ?_
    clear hK K
    refine last_ (i := 5) (N := none) #[true, true, true, true, true, true, false] rfl rfl (by kernel_rfl) (by decide) (fun K hK => ?_)
    have hs29 : w26.cell? ⟨gb130, 0, none⟩ = some (.int .u64 t136) := (blk_cell BK130.out 0).trans rfl
    have hfs29 := blk_frozen BK130.out 0
    have hns29_0 := NB129_130.out
    have hns29_2 := NB131_130.out
    have hms29_0 := NB130_129.out
    have hms29_2 := NB130_131.out
    have hs30 : w26.cell? ⟨gb130, 1, none⟩ = some (.int .u64 t137) := (blk_cell BK130.out 1).trans rfl
    have hfs30 := blk_frozen BK130.out 1
    have hns30_0 := NB129_130.out
    have hns30_2 := NB131_130.out
    have hms30_0 := NB130_129.out
    have hms30_2 := NB130_131.out
    refine skip_ (w1 := ?_) (by rfl) rfl ?_ ?_
    rotate_left
    ·
     go_simp
     rfl
    refine hK.out _ _ ?_
    clear hK K
    refine pure_ (i := 6) (N := some 12) (v := ?_) (a' := ?_) #[true, true, true, true, true, true, true] rfl rfl (by kernel_rfl) (fun _ _ _ h => h) (Or.inl ⟨by rfl, ?_⟩) ?_ ?_
    rotate_left
    ·
     intro w'
     go_simp; with_reducible rfl
    rotate_left
    ·
     simp only [Act.put, List.setIfInBounds_toArray, List.set_cons_zero, List.set_cons_succ, i64_w, i32_w]
     rfl
    refine done_ (by kernel_rfl) ?_
    try go_wp2
    go_meet
    case rel => exact ⟨_, (4294967295), (t138), (t139), (t140), (t141), (by first | rfl | (simp; done) | (simp [*]; done)), H', ⟨by first | omega | exact Nat.le_refl _⟩, ⟨by (with_reducible repeat (first | apply bN | apply bD | apply bA)); refine blk_far ?_ NB129_130.out _; (with_reducible repeat (first | apply bN | apply bD | apply bA)); refine blk_far ?_ NB129_130.out _; (with_reducible repeat (first | apply bN | apply bD | apply bA)); refine blk_put (cs := #[.int .u64 t138, .int .u64 t135]) ?_ 1 _ rfl; (with_reducible repeat (first | apply bN | apply bD | apply bA)); refine blk_put (cs := #[.int .u64 t134, .int .u64 t135]) ?_ 0 _ rfl; (with_reducible repeat (first | apply bN | apply bD | apply bA)); exact BK129.out⟩, ⟨by (with_reducible repeat (first | apply bN | apply bD | apply bA)); refine blk_put (cs := #[.int .u64 t140, .int .u64 t137]) ?_ 1 _ rfl; (with_reducible repeat (first | apply bN | apply bD | apply bA)); refine blk_put (cs := #[.int .u64 t136, .int .u64 t137]) ?_ 0 _ rfl; (with_reducible repeat (first | apply bN | apply bD | apply bA)); refine blk_far ?_ NB130_129.out _; (with_reducible repeat (first | apply bN | apply bD | apply bA)); refine blk_far ?_ NB130_129.out _; (with_reducible repeat (first | apply bN | apply bD | apply bA)); exact BK130.out⟩, ⟨by (with_reducible repeat (first | apply bN | apply bD | apply bA)); refine blk_far ?_ NB131_130.out _; (with_reducible repeat (first | apply bN | apply bD | apply bA)); refine blk_far ?_ NB131_130.out _; (with_reducible repeat (first | apply bN | apply bD | apply bA)); refine blk_far ?_ NB131_129.out _; (with_reducible repeat (first | apply bN | apply bD | apply bA)); refine blk_far ?_ NB131_129.out _; (with_reducible repeat (first | apply bN | apply bD | apply bA)); exact BK131.out⟩, ⟨by repeat (first | (with_reducible first | exact HB.out | apply lA | apply lN | apply lD | refine lS ?_ ‹_›) | exact HB.out)⟩⟩
  case rest =>
   clear HC9
   try clear c2
   try clear p2
   try clear c3
   try clear c4
   try clear c6
   try clear c6b0
   try clear c6b1
   try clear c20
   obtain ⟨kq, x12_8, x130000_8, x130001_8, x131000_8, x131001_8, rfl, HA, HJ8, BK129, BK130, BK131, HB⟩ := hcut
   cases kq with
   | zero => exact absurd HA.out (by simp [span_Do.j0])
   | succ kj8 =>
    have H := HA.out
    clear HA
    simp only [span_Do.j0] at H
    have HC31 := Aside0.mk H
    clear H
    go_upto_if 37 with (fail)
    go_cut [] (fun wc => ∃ (kq : Nat) (x131000_30 : Int) (x131001_30 : Int), Aside0 (span_Do.j1 kq a0 a1 x12_8 x130000_8 x130001_8 x131000_30 x131001_30 = some (r1, r2, r3)) ∧ Aside0 (kq ≤ kj8) ∧ Aside0 (wc.heap[gb129]? = some (.cells #[.int .u64 x130000_8, .int .u64 x130001_8] 58 (0, 0))) ∧ Aside0 (wc.heap[gb130]? = some (.cells #[.int .u64 x131000_30, .int .u64 x131001_30] 58 (0, 0))) ∧ Aside0 (wc.heap[gb131]? = some (.cells #[.int .u64 0, .int .u64 0] 58 (0, 0))) ∧ Aside0 (Below w.heap.size w wc))
    case first =>
     have H := HC31.out
     clear HC31
     by_cases c32 : a0 = 128
     ·
      rw [if_pos c32] at H
      have c32b0 : (a0 == 128) = true := beq_iff_eq.mpr c32; have c32b1 : (a0 != 128) = false := bne_eq_false_iff_eq.mpr c32; clear c32
      (first | rw [c32b0] | (simp only [i64_w, i32_w]; rw [c32b0]) | skip)
      have H' := Aside0.mk H
      clear H; have hnb33 := NB129_130.out; have hnc33 := NB130_129.out; have hnb34 := NB129_131.out; have hnc34 := NB131_129.out; have hcz35_0 : wc.cell? ⟨gb129, 0, none⟩ = some (.int .u64 x130000_8) := (blk_cell BK129.out 0).trans rfl; have hcz35_1 : wc.cell? ⟨gb129, 1, none⟩ = some (.int .u64 x130001_8) := (blk_cell BK129.out 1).trans rfl; have hfz35_0 := blk_frozen BK129.out 0; have hfz35_1 := blk_frozen BK129.out 1; have hnb36 := NB130_131.out; have hnc36 := NB131_130.out; have hcz37_0 : wc.cell? ⟨gb130, 0, none⟩ = some (.int .u64 x131000_8) := (blk_cell BK130.out 0).trans rfl; have hcz37_1 : wc.cell? ⟨gb130, 1, none⟩ = some (.int .u64 x131001_8) := (blk_cell BK130.out 1).trans rfl; have hfz37_0 := blk_frozen BK130.out 0; have hfz37_1 := blk_frozen BK130.out 1
      go_wp2
      go_meet
      case rel => exact ⟨_, (x130000_8), (x130001_8), H', ⟨by have := HJ8.out; first | omega | exact Nat.le_refl _⟩, ⟨by (with_reducible repeat (first | apply bN | apply bD | apply bA)); refine blk_far ?_ NB129_130.out _; (with_reducible repeat (first | apply bN | apply bD | apply bA)); refine blk_far ?_ NB129_130.out _; (with_reducible repeat (first | apply bN | apply bD | apply bA)); exact BK129.out⟩, ⟨by (with_reducible repeat (first | apply bN | apply bD | apply bA)); refine blk_put (cs := #[.int .u64 x130000_8, .int .u64 x131001_8]) ?_ 1 _ rfl; (with_reducible repeat (first | apply bN | apply bD | apply bA)); refine blk_put (cs := #[.int .u64 x131000_8, .int .u64 x131001_8]) ?_ 0 _ rfl; (with_reducible repeat (first | apply bN | apply bD | apply bA)); exact BK130.out⟩, ⟨by (with_reducible repeat (first | apply bN | apply bD | apply bA)); refine blk_far ?_ NB131_130.out _; (with_reducible repeat (first | apply bN | apply bD | apply bA)); refine blk_far ?_ NB131_130.out _; (with_reducible repeat (first | apply bN | apply bD | apply bA)); exact BK131.out⟩, ⟨by repeat (first | (with_reducible first | exact HB.out | apply lA | apply lN | apply lD | refine lS ?_ ‹_›) | exact HB.out)⟩⟩
     ·
      rw [if_neg c32] at H
      have c32b0 : (a0 == 128) = false := beq_eq_false_iff_ne.mpr c32; have c32b1 : (a0 != 128) = true := bne_iff_ne.mpr c32
      (first | rw [c32b0] | (simp only [i64_w, i32_w]; rw [c32b0]) | skip)
      have H' := Aside0.mk H
      clear H
      go_wp2
      go_meet
      case rel => exact ⟨_, (x131000_8), (x131001_8), H', ⟨by have := HJ8.out; first | omega | exact Nat.le_refl _⟩, ⟨by (with_reducible repeat (first | apply bN | apply bD | apply bA)); exact BK129.out⟩, ⟨by (with_reducible repeat (first | apply bN | apply bD | apply bA)); exact BK130.out⟩, ⟨by (with_reducible repeat (first | apply bN | apply bD | apply bA)); exact BK131.out⟩, ⟨by repeat (first | (with_reducible first | exact HB.out | apply lA | apply lN | apply lD | refine lS ?_ ‹_›) | exact HB.out)⟩⟩
    case rest =>
     clear HC31
     try clear c2
     try clear p2
     try clear c3
     try clear c4
     try clear c6
     try clear c6b0
     try clear c6b1
     try clear c20
     try clear c32
     try clear c32b0
     try clear c32b1
     try clear c33
     try clear c34
     try clear c36
     try clear hcz35_0
     try clear hcz35_1
     try clear hcz37_0
     try clear hcz37_1
     try clear hfz35_0
     try clear hfz35_1
     try clear hfz37_0
     try clear hfz37_1
     try clear p2
     obtain ⟨kq, x131000_30, x131001_30, HA, HJ30, BK129, BK130, BK131, HB⟩ := hcut
     cases kq with
     | zero => exact absurd HA.out (by simp [span_Do.j1])
     | succ kj30 =>
      have H := HA.out
      clear HA
      simp only [span_Do.j1] at H
      have HC38 := Aside0.mk H
      clear H
      go_upto_region 10 with (fail)
      go_cut [52] (fun v52 wc => ∃ (kq : Nat) (x52_37 : Bool), v52 = .bool x52_37 ∧ Aside0 (span_Do.j2 kq a0 a1 x12_8 x52_37 x130000_8 x130001_8 x131000_30 x131001_30 = some (r1, r2, r3)) ∧ Aside0 (kq ≤ kj30) ∧ Aside0 (wc.heap[gb129]? = some (.cells #[.int .u64 x130000_8, .int .u64 x130001_8] 58 (0, 0))) ∧ Aside0 (wc.heap[gb130]? = some (.cells #[.int .u64 x131000_30, .int .u64 x131001_30] 58 (0, 0))) ∧ Aside0 (wc.heap[gb131]? = some (.cells #[.int .u64 0, .int .u64 0] 58 (0, 0))) ∧ Aside0 (Below w.heap.size w wc))
      case first =>
       have H := HC38.out
       clear HC38; replace H := Option.bind_eq_some_iff.mp H; obtain ⟨t142, A390, H⟩ := H
       replace H : (if t142 = true then ((span_one.f x130000_8 x130001_8).bind fun t143 => (if t143 = true then (span_Do.j2 kj30 a0 a1 x12_8 true x130000_8 x130001_8 x131000_30 x131001_30) else (if a0 = 176 then (span_Do.j2 kj30 a0 a1 x12_8 true x130000_8 x130001_8 x131000_30 x131001_30) else (span_Do.j2 kj30 a0 a1 x12_8 (a0 == 128) x130000_8 x130001_8 x131000_30 x131001_30)))) else (span_Do.j2 kj30 a0 a1 x12_8 false x130000_8 x130001_8 x131000_30 x131001_30)) = some (r1, r2, r3) := H
       have A39 := Aside0.mk A390; clear A390
       by_cases c40 : t142 = true
       ·
        subst c40
        have H1 : ((span_one.f x130000_8 x130001_8).bind fun t143 => (if t143 = true then (span_Do.j2 kj30 a0 a1 x12_8 true x130000_8 x130001_8 x131000_30 x131001_30) else (if a0 = 176 then (span_Do.j2 kj30 a0 a1 x12_8 true x130000_8 x130001_8 x131000_30 x131001_30) else (span_Do.j2 kj30 a0 a1 x12_8 (a0 == 128) x130000_8 x130001_8 x131000_30 x131001_30)))) = some (r1, r2, r3) := by rw [if_pos rfl] at H; exact H
        clear H; have H := H1; clear H1; replace H := Option.bind_eq_some_iff.mp H; obtain ⟨t143, A410, H⟩ := H
        replace H : (if t143 = true then (span_Do.j2 kj30 a0 a1 x12_8 true x130000_8 x130001_8 x131000_30 x131001_30) else (if a0 = 176 then (span_Do.j2 kj30 a0 a1 x12_8 true x130000_8 x130001_8 x131000_30 x131001_30) else (span_Do.j2 kj30 a0 a1 x12_8 (a0 == 128) x130000_8 x130001_8 x131000_30 x131001_30))) = some (r1, r2, r3) := H
        have A41 := Aside0.mk A410; clear A410
        by_cases c42 : t143 = true
        ·
         subst c42
         have H1 : (span_Do.j2 kj30 a0 a1 x12_8 true x130000_8 x130001_8 x131000_30 x131001_30) = some (r1, r2, r3) := by rw [if_pos rfl] at H; exact H
         clear H; have H := H1; clear H1
         have H' := Aside0.mk H
         clear H; have hnb43 := NB130_129.out; have hnc43 := NB129_130.out; have hnb44 := NB130_131.out; have hnc44 := NB131_130.out; have hcz45_0 : wc.cell? ⟨gb130, 0, none⟩ = some (.int .u64 x131000_30) := (blk_cell BK130.out 0).trans rfl; have hcz45_1 : wc.cell? ⟨gb130, 1, none⟩ = some (.int .u64 x131001_30) := (blk_cell BK130.out 1).trans rfl; have hfz45_0 := blk_frozen BK130.out 0; have hfz45_1 := blk_frozen BK130.out 1
         go_wp2_with (first | ((with_reducible refine gate_callee (f := 50) rfl ?_); refine goesL_ (some 40) rfl rfl Try.func50 (by kernel_rfl) rfl #[.agg #[.int .u64 x131000_30, .int .u64 x131001_30]] rfl (by (try simp only [List.map_toArray, List.map_cons, List.map_nil]); first | done | rfl | (simp only [List.length_drop, List.length_take]; rfl)) ?_; (with_reducible refine (span_one.calls x131000_30 x131001_30 true _ A39.out).mono ?_); rintro e w46 ⟨rfl, hb⟩; refine ⟨_, rfl, ?_⟩; have n0_ := Aside0.mk (blk_below (g := gb129) (o := .cells #[.int .u64 x130000_8, .int .u64 x130001_8] 58 (0, 0)) (by (with_reducible repeat (first | apply bN | apply bD | apply bA)); exact BK129.out) hb); have n1_ := Aside0.mk (blk_below (g := gb130) (o := .cells #[.int .u64 x131000_30, .int .u64 x131001_30] 58 (0, 0)) (by (with_reducible repeat (first | apply bN | apply bD | apply bA)); exact BK130.out) hb); have n2_ := Aside0.mk (blk_below (g := gb131) (o := .cells #[.int .u64 0, .int .u64 0] 58 (0, 0)) (by (with_reducible repeat (first | apply bN | apply bD | apply bA)); exact BK131.out) hb); have n3_ := Aside0.mk (below_step (by repeat (first | (with_reducible first | exact HB.out | apply lA | apply lN | apply lD | refine lS ?_ ‹_›) | exact HB.out)) hb); clear BK129; clear BK130; clear BK131; clear HB; have BK129 := n0_; have BK130 := n1_; have BK131 := n2_; have HB := n3_; clear n0_ n1_ n2_ n3_; (try clear hb); (try clear hb2); (try clear hk); (try clear hi); have hnb47 := NB129_131.out; have hnc47 := NB131_129.out; have hcz48_0 : w46.cell? ⟨gb129, 0, none⟩ = some (.int .u64 x130000_8) := (blk_cell BK129.out 0).trans rfl; have hcz48_1 : w46.cell? ⟨gb129, 1, none⟩ = some (.int .u64 x130001_8) := (blk_cell BK129.out 1).trans rfl; have hfz48_0 := blk_frozen BK129.out 0; have hfz48_1 := blk_frozen BK129.out 1) | (go_at_call 50; (with_reducible refine (span_one.calls x130000_8 x130001_8 true _ A41.out).mono ?_); rintro e w49 ⟨rfl, hb⟩; have n0_ := Aside0.mk (blk_below (g := gb129) (o := .cells #[.int .u64 x130000_8, .int .u64 x130001_8] 58 (0, 0)) (by (with_reducible repeat (first | apply bN | apply bD | apply bA)); exact BK129.out) hb); have n1_ := Aside0.mk (blk_below (g := gb130) (o := .cells #[.int .u64 x131000_30, .int .u64 x131001_30] 58 (0, 0)) (by (with_reducible repeat (first | apply bN | apply bD | apply bA)); exact BK130.out) hb); have n2_ := Aside0.mk (blk_below (g := gb131) (o := .cells #[.int .u64 0, .int .u64 0] 58 (0, 0)) (by (with_reducible repeat (first | apply bN | apply bD | apply bA)); exact BK131.out) hb); have n3_ := Aside0.mk (below_step (by repeat (first | (with_reducible first | exact HB.out | apply lA | apply lN | apply lD | refine lS ?_ ‹_›) | exact HB.out)) hb); clear BK129; clear BK130; clear BK131; clear HB; have BK129 := n0_; have BK130 := n1_; have BK131 := n2_; have HB := n3_; clear n0_ n1_ n2_ n3_; (try clear hb); (try clear hb2); (try clear hk); (try clear hi)))
         go_meet
         case rel => exact ⟨_, (true), (by first | rfl | (simp; done) | (simp [*]; done)), H', ⟨by have := HJ8.out; have := HJ30.out; first | omega | exact Nat.le_refl _⟩, ⟨by (with_reducible repeat (first | apply bN | apply bD | apply bA)); exact BK129.out⟩, ⟨by (with_reducible repeat (first | apply bN | apply bD | apply bA)); exact BK130.out⟩, ⟨by (with_reducible repeat (first | apply bN | apply bD | apply bA)); exact BK131.out⟩, ⟨by repeat (first | (with_reducible first | exact HB.out | apply lA | apply lN | apply lD | refine lS ?_ ‹_›) | exact HB.out)⟩⟩
        ·
         replace c42 := Bool.eq_false_iff.mpr c42
         subst c42
         have H1 : (if a0 = 176 then (span_Do.j2 kj30 a0 a1 x12_8 true x130000_8 x130001_8 x131000_30 x131001_30) else (span_Do.j2 kj30 a0 a1 x12_8 (a0 == 128) x130000_8 x130001_8 x131000_30 x131001_30)) = some (r1, r2, r3) := by rw [if_neg (show ¬ (false = true) by decide)] at H; exact H
         clear H; have H := H1; clear H1
         by_cases c50 : a0 = 176
         ·
          rw [if_pos c50] at H
          have c50b0 : (a0 == 176) = true := beq_iff_eq.mpr c50; have c50b1 : (a0 != 176) = false := bne_eq_false_iff_eq.mpr c50; clear c50
          (first | rw [c50b0] | (simp only [i64_w, i32_w]; rw [c50b0]) | skip)
          have H' := Aside0.mk H
          clear H; have hnb51 := NB130_129.out; have hnc51 := NB129_130.out; have hnb52 := NB130_131.out; have hnc52 := NB131_130.out; have hcz53_0 : wc.cell? ⟨gb130, 0, none⟩ = some (.int .u64 x131000_30) := (blk_cell BK130.out 0).trans rfl; have hcz53_1 : wc.cell? ⟨gb130, 1, none⟩ = some (.int .u64 x131001_30) := (blk_cell BK130.out 1).trans rfl; have hfz53_0 := blk_frozen BK130.out 0; have hfz53_1 := blk_frozen BK130.out 1
          go_wp2_with (first | ((with_reducible refine gate_callee (f := 50) rfl ?_); refine goesL_ (some 40) rfl rfl Try.func50 (by kernel_rfl) rfl #[.agg #[.int .u64 x131000_30, .int .u64 x131001_30]] rfl (by (try simp only [List.map_toArray, List.map_cons, List.map_nil]); first | done | rfl | (simp only [List.length_drop, List.length_take]; rfl)) ?_; (with_reducible refine (span_one.calls x131000_30 x131001_30 true _ A39.out).mono ?_); rintro e w54 ⟨rfl, hb⟩; refine ⟨_, rfl, ?_⟩; have n0_ := Aside0.mk (blk_below (g := gb129) (o := .cells #[.int .u64 x130000_8, .int .u64 x130001_8] 58 (0, 0)) (by (with_reducible repeat (first | apply bN | apply bD | apply bA)); exact BK129.out) hb); have n1_ := Aside0.mk (blk_below (g := gb130) (o := .cells #[.int .u64 x131000_30, .int .u64 x131001_30] 58 (0, 0)) (by (with_reducible repeat (first | apply bN | apply bD | apply bA)); exact BK130.out) hb); have n2_ := Aside0.mk (blk_below (g := gb131) (o := .cells #[.int .u64 0, .int .u64 0] 58 (0, 0)) (by (with_reducible repeat (first | apply bN | apply bD | apply bA)); exact BK131.out) hb); have n3_ := Aside0.mk (below_step (by repeat (first | (with_reducible first | exact HB.out | apply lA | apply lN | apply lD | refine lS ?_ ‹_›) | exact HB.out)) hb); clear BK129; clear BK130; clear BK131; clear HB; have BK129 := n0_; have BK130 := n1_; have BK131 := n2_; have HB := n3_; clear n0_ n1_ n2_ n3_; (try clear hb); (try clear hb2); (try clear hk); (try clear hi); have hnb55 := NB129_131.out; have hnc55 := NB131_129.out; have hcz56_0 : w54.cell? ⟨gb129, 0, none⟩ = some (.int .u64 x130000_8) := (blk_cell BK129.out 0).trans rfl; have hcz56_1 : w54.cell? ⟨gb129, 1, none⟩ = some (.int .u64 x130001_8) := (blk_cell BK129.out 1).trans rfl; have hfz56_0 := blk_frozen BK129.out 0; have hfz56_1 := blk_frozen BK129.out 1) | (go_at_call 50; (with_reducible refine (span_one.calls x130000_8 x130001_8 false _ A41.out).mono ?_); rintro e w57 ⟨rfl, hb⟩; have n0_ := Aside0.mk (blk_below (g := gb129) (o := .cells #[.int .u64 x130000_8, .int .u64 x130001_8] 58 (0, 0)) (by (with_reducible repeat (first | apply bN | apply bD | apply bA)); exact BK129.out) hb); have n1_ := Aside0.mk (blk_below (g := gb130) (o := .cells #[.int .u64 x131000_30, .int .u64 x131001_30] 58 (0, 0)) (by (with_reducible repeat (first | apply bN | apply bD | apply bA)); exact BK130.out) hb); have n2_ := Aside0.mk (blk_below (g := gb131) (o := .cells #[.int .u64 0, .int .u64 0] 58 (0, 0)) (by (with_reducible repeat (first | apply bN | apply bD | apply bA)); exact BK131.out) hb); have n3_ := Aside0.mk (below_step (by repeat (first | (with_reducible first | exact HB.out | apply lA | apply lN | apply lD | refine lS ?_ ‹_›) | exact HB.out)) hb); clear BK129; clear BK130; clear BK131; clear HB; have BK129 := n0_; have BK130 := n1_; have BK131 := n2_; have HB := n3_; clear n0_ n1_ n2_ n3_; (try clear hb); (try clear hb2); (try clear hk); (try clear hi)))
          go_meet
          case rel => exact ⟨_, (true), (by first | rfl | (simp; done) | (simp [*]; done)), H', ⟨by have := HJ8.out; have := HJ30.out; first | omega | exact Nat.le_refl _⟩, ⟨by (with_reducible repeat (first | apply bN | apply bD | apply bA)); exact BK129.out⟩, ⟨by (with_reducible repeat (first | apply bN | apply bD | apply bA)); exact BK130.out⟩, ⟨by (with_reducible repeat (first | apply bN | apply bD | apply bA)); exact BK131.out⟩, ⟨by repeat (first | (with_reducible first | exact HB.out | apply lA | apply lN | apply lD | refine lS ?_ ‹_›) | exact HB.out)⟩⟩
         ·
          rw [if_neg c50] at H
          have c50b0 : (a0 == 176) = false := beq_eq_false_iff_ne.mpr c50; have c50b1 : (a0 != 176) = true := bne_iff_ne.mpr c50
          (first | rw [c50b0] | (simp only [i64_w, i32_w]; rw [c50b0]) | skip)
          have H' := Aside0.mk H
          clear H; have hnb58 := NB130_129.out; have hnc58 := NB129_130.out; have hnb59 := NB130_131.out; have hnc59 := NB131_130.out; have hcz60_0 : wc.cell? ⟨gb130, 0, none⟩ = some (.int .u64 x131000_30) := (blk_cell BK130.out 0).trans rfl; have hcz60_1 : wc.cell? ⟨gb130, 1, none⟩ = some (.int .u64 x131001_30) := (blk_cell BK130.out 1).trans rfl; have hfz60_0 := blk_frozen BK130.out 0; have hfz60_1 := blk_frozen BK130.out 1
          go_wp2_with (first | ((with_reducible refine gate_callee (f := 50) rfl ?_); refine goesL_ (some 40) rfl rfl Try.func50 (by kernel_rfl) rfl #[.agg #[.int .u64 x131000_30, .int .u64 x131001_30]] rfl (by (try simp only [List.map_toArray, List.map_cons, List.map_nil]); first | done | rfl | (simp only [List.length_drop, List.length_take]; rfl)) ?_; (with_reducible refine (span_one.calls x131000_30 x131001_30 true _ A39.out).mono ?_); rintro e w61 ⟨rfl, hb⟩; refine ⟨_, rfl, ?_⟩; have n0_ := Aside0.mk (blk_below (g := gb129) (o := .cells #[.int .u64 x130000_8, .int .u64 x130001_8] 58 (0, 0)) (by (with_reducible repeat (first | apply bN | apply bD | apply bA)); exact BK129.out) hb); have n1_ := Aside0.mk (blk_below (g := gb130) (o := .cells #[.int .u64 x131000_30, .int .u64 x131001_30] 58 (0, 0)) (by (with_reducible repeat (first | apply bN | apply bD | apply bA)); exact BK130.out) hb); have n2_ := Aside0.mk (blk_below (g := gb131) (o := .cells #[.int .u64 0, .int .u64 0] 58 (0, 0)) (by (with_reducible repeat (first | apply bN | apply bD | apply bA)); exact BK131.out) hb); have n3_ := Aside0.mk (below_step (by repeat (first | (with_reducible first | exact HB.out | apply lA | apply lN | apply lD | refine lS ?_ ‹_›) | exact HB.out)) hb); clear BK129; clear BK130; clear BK131; clear HB; have BK129 := n0_; have BK130 := n1_; have BK131 := n2_; have HB := n3_; clear n0_ n1_ n2_ n3_; (try clear hb); (try clear hb2); (try clear hk); (try clear hi); have hnb62 := NB129_131.out; have hnc62 := NB131_129.out; have hcz63_0 : w61.cell? ⟨gb129, 0, none⟩ = some (.int .u64 x130000_8) := (blk_cell BK129.out 0).trans rfl; have hcz63_1 : w61.cell? ⟨gb129, 1, none⟩ = some (.int .u64 x130001_8) := (blk_cell BK129.out 1).trans rfl; have hfz63_0 := blk_frozen BK129.out 0; have hfz63_1 := blk_frozen BK129.out 1) | (go_at_call 50; (with_reducible refine (span_one.calls x130000_8 x130001_8 false _ A41.out).mono ?_); rintro e w64 ⟨rfl, hb⟩; have n0_ := Aside0.mk (blk_below (g := gb129) (o := .cells #[.int .u64 x130000_8, .int .u64 x130001_8] 58 (0, 0)) (by (with_reducible repeat (first | apply bN | apply bD | apply bA)); exact BK129.out) hb); have n1_ := Aside0.mk (blk_below (g := gb130) (o := .cells #[.int .u64 x131000_30, .int .u64 x131001_30] 58 (0, 0)) (by (with_reducible repeat (first | apply bN | apply bD | apply bA)); exact BK130.out) hb); have n2_ := Aside0.mk (blk_below (g := gb131) (o := .cells #[.int .u64 0, .int .u64 0] 58 (0, 0)) (by (with_reducible repeat (first | apply bN | apply bD | apply bA)); exact BK131.out) hb); have n3_ := Aside0.mk (below_step (by repeat (first | (with_reducible first | exact HB.out | apply lA | apply lN | apply lD | refine lS ?_ ‹_›) | exact HB.out)) hb); clear BK129; clear BK130; clear BK131; clear HB; have BK129 := n0_; have BK130 := n1_; have BK131 := n2_; have HB := n3_; clear n0_ n1_ n2_ n3_; (try clear hb); (try clear hb2); (try clear hk); (try clear hi)))
          go_meet
          case rel => exact ⟨_, ((a0 == 128)), (by first | rfl | (simp; done) | (simp [*]; done)), H', ⟨by have := HJ8.out; have := HJ30.out; first | omega | exact Nat.le_refl _⟩, ⟨by (with_reducible repeat (first | apply bN | apply bD | apply bA)); exact BK129.out⟩, ⟨by (with_reducible repeat (first | apply bN | apply bD | apply bA)); exact BK130.out⟩, ⟨by (with_reducible repeat (first | apply bN | apply bD | apply bA)); exact BK131.out⟩, ⟨by repeat (first | (with_reducible first | exact HB.out | apply lA | apply lN | apply lD | refine lS ?_ ‹_›) | exact HB.out)⟩⟩
       ·
        replace c40 := Bool.eq_false_iff.mpr c40
        subst c40
        have H1 : (span_Do.j2 kj30 a0 a1 x12_8 false x130000_8 x130001_8 x131000_30 x131001_30) = some (r1, r2, r3) := by rw [if_neg (show ¬ (false = true) by decide)] at H; exact H
        clear H; have H := H1; clear H1
        have H' := Aside0.mk H
        clear H; have hnb65 := NB130_129.out; have hnc65 := NB129_130.out; have hnb66 := NB130_131.out; have hnc66 := NB131_130.out; have hcz67_0 : wc.cell? ⟨gb130, 0, none⟩ = some (.int .u64 x131000_30) := (blk_cell BK130.out 0).trans rfl; have hcz67_1 : wc.cell? ⟨gb130, 1, none⟩ = some (.int .u64 x131001_30) := (blk_cell BK130.out 1).trans rfl; have hfz67_0 := blk_frozen BK130.out 0; have hfz67_1 := blk_frozen BK130.out 1
        go_wp2_with (first | ((with_reducible refine gate_callee (f := 50) rfl ?_); refine goesL_ (some 40) rfl rfl Try.func50 (by kernel_rfl) rfl #[.agg #[.int .u64 x131000_30, .int .u64 x131001_30]] rfl (by (try simp only [List.map_toArray, List.map_cons, List.map_nil]); first | done | rfl | (simp only [List.length_drop, List.length_take]; rfl)) ?_; (with_reducible refine (span_one.calls x131000_30 x131001_30 false _ A39.out).mono ?_); rintro e w68 ⟨rfl, hb⟩; refine ⟨_, rfl, ?_⟩; have n0_ := Aside0.mk (blk_below (g := gb129) (o := .cells #[.int .u64 x130000_8, .int .u64 x130001_8] 58 (0, 0)) (by (with_reducible repeat (first | apply bN | apply bD | apply bA)); exact BK129.out) hb); have n1_ := Aside0.mk (blk_below (g := gb130) (o := .cells #[.int .u64 x131000_30, .int .u64 x131001_30] 58 (0, 0)) (by (with_reducible repeat (first | apply bN | apply bD | apply bA)); exact BK130.out) hb); have n2_ := Aside0.mk (blk_below (g := gb131) (o := .cells #[.int .u64 0, .int .u64 0] 58 (0, 0)) (by (with_reducible repeat (first | apply bN | apply bD | apply bA)); exact BK131.out) hb); have n3_ := Aside0.mk (below_step (by repeat (first | (with_reducible first | exact HB.out | apply lA | apply lN | apply lD | refine lS ?_ ‹_›) | exact HB.out)) hb); clear BK129; clear BK130; clear BK131; clear HB; have BK129 := n0_; have BK130 := n1_; have BK131 := n2_; have HB := n3_; clear n0_ n1_ n2_ n3_; (try clear hb); (try clear hb2); (try clear hk); (try clear hi)))
        go_meet
        case rel => exact ⟨_, (false), (by first | rfl | (simp; done) | (simp [*]; done)), H', ⟨by have := HJ8.out; have := HJ30.out; first | omega | exact Nat.le_refl _⟩, ⟨by (with_reducible repeat (first | apply bN | apply bD | apply bA)); exact BK129.out⟩, ⟨by (with_reducible repeat (first | apply bN | apply bD | apply bA)); exact BK130.out⟩, ⟨by (with_reducible repeat (first | apply bN | apply bD | apply bA)); exact BK131.out⟩, ⟨by repeat (first | (with_reducible first | exact HB.out | apply lA | apply lN | apply lD | refine lS ?_ ‹_›) | exact HB.out)⟩⟩
      case rest =>
       clear HC38
       try clear c2
       try clear p2
       try clear c3
       try clear c4
       try clear c5
       try clear c6
       try clear c6b0
       try clear c6b1
       try clear c20
       try clear c32
       try clear c32b0
       try clear c32b1
       try clear c33
       try clear c34
       try clear c36
       try clear c40
       try clear c42
       try clear c43
       try clear c44
       try clear c47
       try clear c48
       try clear c49
       try clear c50
       try clear c50b0
       try clear c50b1
       try clear c51
       try clear c52
       try clear c55
       try clear c58
       try clear c59
       try clear c62
       try clear c65
       try clear c66
       try clear hcz35_0
       try clear hcz35_1
       try clear hcz37_0
       try clear hcz37_1
       try clear hcz45_0
       try clear hcz45_1
       try clear hcz48_0
       try clear hcz48_1
       try clear hcz53_0
       try clear hcz53_1
       try clear hcz56_0
       try clear hcz56_1
       try clear hcz60_0
       try clear hcz60_1
       try clear hcz63_0
       try clear hcz63_1
       try clear hcz67_0
       try clear hcz67_1
       try clear hfz35_0
       try clear hfz35_1
       try clear hfz37_0
       try clear hfz37_1
       try clear hfz45_0
       try clear hfz45_1
       try clear hfz48_0
       try clear hfz48_1
       try clear hfz53_0
       try clear hfz53_1
       try clear hfz56_0
       try clear hfz56_1
       try clear hfz60_0
       try clear hfz60_1
       try clear hfz63_0
       try clear hfz63_1
       try clear hfz67_0
       try clear hfz67_1
       try clear p2
       obtain ⟨kq, x52_37, rfl, HA, HJ37, BK129, BK130, BK131, HB⟩ := hcut
       cases kq with
       | zero => exact absurd HA.out (by simp [span_Do.j2])
       | succ kj37 =>
        have H := HA.out
        clear HA
        simp only [span_Do.j2] at H
        by_cases c69 : x52_37 = true
        ·
         subst c69
         have H1 : ((alu_Do.f a0 a1 x130000_8 x131000_30).bind fun bt144 => ((span_Const.f bt144.1).bind fun bt146 => (some (bt146.1, bt146.2, bt144.2)))) = some (r1, r2, r3) := by rw [if_pos rfl] at H; exact H
         clear H; have H := H1; clear H1; replace H := Option.bind_eq_some_iff.mp H; obtain ⟨⟨t144, t145⟩, A700, H⟩ := H
         replace H : ((span_Const.f t144).bind fun bt146 => (some (bt146.1, bt146.2, t145))) = some (r1, r2, r3) := H
         have A70 := Aside0.mk A700; clear A700; replace H := Option.bind_eq_some_iff.mp H; obtain ⟨⟨t146, t147⟩, A710, H⟩ := H
         replace H : (some (t146, t147, t145)) = some (r1, r2, r3) := H
         have A71 := Aside0.mk A710; clear A710; simp only [Option.some.injEq, Prod.mk.injEq] at H; obtain ⟨rfl, rfl, rfl⟩ := H; have hnb72 := NB129_130.out; have hnc72 := NB130_129.out; have hnb73 := NB129_131.out; have hnc73 := NB131_129.out; have hcz74_0 : wc.cell? ⟨gb129, 0, none⟩ = some (.int .u64 x130000_8) := (blk_cell BK129.out 0).trans rfl; have hcz74_1 : wc.cell? ⟨gb129, 1, none⟩ = some (.int .u64 x130001_8) := (blk_cell BK129.out 1).trans rfl; have hfz74_0 := blk_frozen BK129.out 0; have hfz74_1 := blk_frozen BK129.out 1; have hnb75 := NB130_131.out; have hnc75 := NB131_130.out; have hcz76_0 : wc.cell? ⟨gb130, 0, none⟩ = some (.int .u64 x131000_30) := (blk_cell BK130.out 0).trans rfl; have hcz76_1 : wc.cell? ⟨gb130, 1, none⟩ = some (.int .u64 x131001_30) := (blk_cell BK130.out 1).trans rfl; have hfz76_0 := blk_frozen BK130.out 0; have hfz76_1 := blk_frozen BK130.out 1
         go_wp2_with (first | ((with_reducible refine gate_callee (f := 42) rfl ?_); refine goesL_ (some 60) rfl rfl Try.func42 (by kernel_rfl) rfl #[.int .i64 a0, .bool a1, .int .u64 x130000_8, .int .u64 x131000_30] rfl (by (try simp only [List.map_toArray, List.map_cons, List.map_nil]); first | done | rfl | (simp only [List.length_drop, List.length_take]; rfl)) ?_; (with_reducible refine (alu_Do.calls a0 a1 x130000_8 x131000_30 t144 t145 _ A70.out).mono ?_); rintro e w' ⟨rfl, ⟨nd, rfl⟩⟩; refine ⟨_, rfl, ?_⟩; (try (rw [drewN_self wc]; generalize hq_ : World.drewN wc _ = wc; have n0_ : Aside0 (wc.heap[gb129]? = some (.cells #[.int .u64 x130000_8, .int .u64 x130001_8] 58 (0, 0))) := ⟨by rw [← hq_]; exact (by (with_reducible repeat (first | apply bN | apply bD | apply bA)); exact BK129.out)⟩; have n1_ : Aside0 (wc.heap[gb130]? = some (.cells #[.int .u64 x131000_30, .int .u64 x131001_30] 58 (0, 0))) := ⟨by rw [← hq_]; exact (by (with_reducible repeat (first | apply bN | apply bD | apply bA)); exact BK130.out)⟩; have n2_ : Aside0 (wc.heap[gb131]? = some (.cells #[.int .u64 0, .int .u64 0] 58 (0, 0))) := ⟨by rw [← hq_]; exact (by (with_reducible repeat (first | apply bN | apply bD | apply bA)); exact BK131.out)⟩; have n3_ : Aside0 (Below w.heap.size w wc) := ⟨by rw [← hq_]; exact (by repeat (first | (with_reducible first | exact HB.out | apply lA | apply lN | apply lD | refine lS ?_ ‹_›) | exact HB.out))⟩; clear BK129 BK130 BK131 HB hq_; have BK129 := n0_; have BK130 := n1_; have BK131 := n2_; have HB := n3_; clear n0_ n1_ n2_ n3_)); have hcz74_0 : wc.cell? ⟨gb129, 0, none⟩ = some (.int .u64 x130000_8) := (blk_cell BK129.out 0).trans rfl; have hcz74_1 : wc.cell? ⟨gb129, 1, none⟩ = some (.int .u64 x130001_8) := (blk_cell BK129.out 1).trans rfl; have hfz74_0 := blk_frozen BK129.out 0; have hfz74_1 := blk_frozen BK129.out 1; have hcz76_0 : wc.cell? ⟨gb130, 0, none⟩ = some (.int .u64 x131000_30) := (blk_cell BK130.out 0).trans rfl; have hcz76_1 : wc.cell? ⟨gb130, 1, none⟩ = some (.int .u64 x131001_30) := (blk_cell BK130.out 1).trans rfl; have hfz76_0 := blk_frozen BK130.out 0; have hfz76_1 := blk_frozen BK130.out 1) | ((with_reducible refine gate_callee (f := 37) rfl ?_); refine goesL_ (some 64) rfl rfl Try.func37 (by kernel_rfl) rfl #[.int .u64 t144] rfl (by (try simp only [List.map_toArray, List.map_cons, List.map_nil]); first | done | rfl | (simp only [List.length_drop, List.length_take]; rfl)) ?_; (with_reducible refine (span_Const.calls t144 t146 t147 _ A71.out).mono ?_); rintro e w77 ⟨rfl, hb⟩; refine ⟨_, rfl, ?_⟩; have n0_ := Aside0.mk (blk_below (g := gb129) (o := .cells #[.int .u64 x130000_8, .int .u64 x130001_8] 58 (0, 0)) (by (with_reducible repeat (first | apply bN | apply bD | apply bA)); exact BK129.out) hb); have n1_ := Aside0.mk (blk_below (g := gb130) (o := .cells #[.int .u64 x131000_30, .int .u64 x131001_30] 58 (0, 0)) (by (with_reducible repeat (first | apply bN | apply bD | apply bA)); exact BK130.out) hb); have n2_ := Aside0.mk (blk_below (g := gb131) (o := .cells #[.int .u64 0, .int .u64 0] 58 (0, 0)) (by (with_reducible repeat (first | apply bN | apply bD | apply bA)); exact BK131.out) hb); have n3_ := Aside0.mk (below_step (by repeat (first | (with_reducible first | exact HB.out | apply lA | apply lN | apply lD | refine lS ?_ ‹_›) | exact HB.out)) hb); clear BK129; clear BK130; clear BK131; clear HB; have BK129 := n0_; have BK130 := n1_; have BK131 := n2_; have HB := n3_; clear n0_ n1_ n2_ n3_; (try clear hb); (try clear hb2); (try clear hk); (try clear hi); have hcz78_0 : w77.cell? ⟨gb131, 0, none⟩ = some (.int .u64 0) := (blk_cell BK131.out 0).trans rfl; have hcz78_1 : w77.cell? ⟨gb131, 1, none⟩ = some (.int .u64 0) := (blk_cell BK131.out 1).trans rfl; have hfz78_0 := blk_frozen BK131.out 0; have hfz78_1 := blk_frozen BK131.out 1))
         refine bodyPost_ret (results_ct rfl _ _ gb131 58 #[.int .u64 t146, .int .u64 t147] (0, 0) _ rfl (by (with_reducible repeat (first | apply bN | apply bD | apply bA)); refine blk_put (cs := #[.int .u64 t146, .int .u64 0]) ?_ 1 _ rfl; (with_reducible repeat (first | apply bN | apply bD | apply bA)); refine blk_put (cs := #[.int .u64 0, .int .u64 0]) ?_ 0 _ rfl; (with_reducible repeat (first | apply bN | apply bD | apply bA)); exact BK131.out) Try.underlying58 rfl (by kernel_rfl)) rfl ?_
         exact ⟨by first | rfl | (simp [errW_none, errW_some] <;> rfl) | (simp [*, errW_none, errW_some] <;> rfl), by repeat (first | (with_reducible first | exact HB.out | apply lA | apply lN | apply lD | refine lS ?_ ‹_›) | exact HB.out)⟩
        ·
         replace c69 := Bool.eq_false_iff.mpr c69
         subst c69
         have H1 : ((span_do.f kj37 a0 x12_8 x130000_8 x130001_8 x131000_30 x131001_30).bind fun bt148 => (if bt148.2 > x12_8 then (some (0, x12_8, 0)) else (if bt148.1 > bt148.2 then (some (0, x12_8, 0)) else (some (bt148.1, bt148.2, 0))))) = some (r1, r2, r3) := by rw [if_neg (show ¬ (false = true) by decide)] at H; exact H
         clear H; have H := H1; clear H1; replace H := Option.bind_eq_some_iff.mp H; obtain ⟨⟨t148, t149⟩, A790, H⟩ := H
         replace H : (if t149 > x12_8 then (some (0, x12_8, 0)) else (if t148 > t149 then (some (0, x12_8, 0)) else (some (t148, t149, 0)))) = some (r1, r2, r3) := H
         have A79 := Aside0.mk A790; clear A790
         by_cases c80 : t149 > x12_8
         ·
          rw [if_pos c80] at H
          have c80b0 : decide (x12_8 < t149) = true := decide_eq_true c80; clear c80; simp only [Option.some.injEq, Prod.mk.injEq] at H; obtain ⟨rfl, rfl, rfl⟩ := H; have hnb81 := NB129_130.out; have hnc81 := NB130_129.out; have hnb82 := NB129_131.out; have hnc82 := NB131_129.out; have hcz83_0 : wc.cell? ⟨gb129, 0, none⟩ = some (.int .u64 x130000_8) := (blk_cell BK129.out 0).trans rfl; have hcz83_1 : wc.cell? ⟨gb129, 1, none⟩ = some (.int .u64 x130001_8) := (blk_cell BK129.out 1).trans rfl; have hfz83_0 := blk_frozen BK129.out 0; have hfz83_1 := blk_frozen BK129.out 1; have hnb84 := NB130_131.out; have hnc84 := NB131_130.out; have hcz85_0 : wc.cell? ⟨gb130, 0, none⟩ = some (.int .u64 x131000_30) := (blk_cell BK130.out 0).trans rfl; have hcz85_1 : wc.cell? ⟨gb130, 1, none⟩ = some (.int .u64 x131001_30) := (blk_cell BK130.out 1).trans rfl; have hfz85_0 := blk_frozen BK130.out 0; have hfz85_1 := blk_frozen BK130.out 1
          go_upto_region 16 with (first | ((with_reducible refine gate_callee (f := 51) rfl ?_); refine goesL_ (some 70) rfl rfl Try.func51 (by kernel_rfl) rfl #[.int .i64 a0, .int .u64 x12_8, .agg #[.int .u64 x130000_8, .int .u64 x130001_8], .agg #[.int .u64 x131000_30, .int .u64 x131001_30]] rfl (by (try simp only [List.map_toArray, List.map_cons, List.map_nil]); first | done | rfl | (simp only [List.length_drop, List.length_take]; rfl)) ?_; (with_reducible refine (span_do.calls kj37 a0 x12_8 x130000_8 x130001_8 x131000_30 x131001_30 t148 t149 _ A79.out).mono ?_); rintro e w86 ⟨rfl, hb⟩; refine ⟨_, rfl, ?_⟩; have n0_ := Aside0.mk (blk_below (g := gb129) (o := .cells #[.int .u64 x130000_8, .int .u64 x130001_8] 58 (0, 0)) (by (with_reducible repeat (first | apply bN | apply bD | apply bA)); exact BK129.out) hb); have n1_ := Aside0.mk (blk_below (g := gb130) (o := .cells #[.int .u64 x131000_30, .int .u64 x131001_30] 58 (0, 0)) (by (with_reducible repeat (first | apply bN | apply bD | apply bA)); exact BK130.out) hb); have n2_ := Aside0.mk (blk_below (g := gb131) (o := .cells #[.int .u64 0, .int .u64 0] 58 (0, 0)) (by (with_reducible repeat (first | apply bN | apply bD | apply bA)); exact BK131.out) hb); have n3_ := Aside0.mk (below_step (by repeat (first | (with_reducible first | exact HB.out | apply lA | apply lN | apply lD | refine lS ?_ ‹_›) | exact HB.out)) hb); clear BK129; clear BK130; clear BK131; clear HB; have BK129 := n0_; have BK130 := n1_; have BK131 := n2_; have HB := n3_; clear n0_ n1_ n2_ n3_; (try clear hb); (try clear hb2); (try clear hk); (try clear hi)) | ((with_reducible refine gate_dst (N := 15) rfl ?_); refine box_event ?hg (N := 15) ?hd (cs := #[.int .u64 0, .int .u64 0]) (t := 58) ?hr ?_; (case hd => rfl); (case hg => rfl); (case hr => first | (go_simp; done) | (go_simp; rfl)); intro gb150 hg w87 hbox hb; have n0_ := Aside0.mk (blk_below (g := gb129) (o := .cells #[.int .u64 x130000_8, .int .u64 x130001_8] 58 (0, 0)) (by (with_reducible repeat (first | apply bN | apply bD | apply bA)); exact BK129.out) hb); have n1_ := Aside0.mk (blk_below (g := gb130) (o := .cells #[.int .u64 x131000_30, .int .u64 x131001_30] 58 (0, 0)) (by (with_reducible repeat (first | apply bN | apply bD | apply bA)); exact BK130.out) hb); have n2_ := Aside0.mk (blk_below (g := gb131) (o := .cells #[.int .u64 0, .int .u64 0] 58 (0, 0)) (by (with_reducible repeat (first | apply bN | apply bD | apply bA)); exact BK131.out) hb); have n3_ := Aside0.mk (below_step (by repeat (first | (with_reducible first | exact HB.out | apply lA | apply lN | apply lD | refine lS ?_ ‹_›) | exact HB.out)) hb); have n4_ := Aside0.mk (hbox); have n5_ := Aside0.mk ((by rw [hg]; exact (below_size (by repeat (first | (with_reducible first | exact HB.out | apply lA | apply lN | apply lD | refine lS ?_ ‹_›) | exact HB.out))) : w.heap.size ≤ gb150)); have n6_ := n5_; have n7_ := Aside0.mk ((by rw [hg]; exact Nat.ne_of_lt (blk_lt (g := gb129) (o := .cells #[.int .u64 x130000_8, .int .u64 x130001_8] 58 (0, 0)) (by (with_reducible repeat (first | apply bN | apply bD | apply bA)); exact BK129.out)) : gb129 ≠ gb150)); have n8_ := sy n7_; have n9_ := Aside0.mk ((by rw [hg]; exact Nat.ne_of_lt (blk_lt (g := gb130) (o := .cells #[.int .u64 x131000_30, .int .u64 x131001_30] 58 (0, 0)) (by (with_reducible repeat (first | apply bN | apply bD | apply bA)); exact BK130.out)) : gb130 ≠ gb150)); have n10_ := sy n9_; have n11_ := Aside0.mk ((by rw [hg]; exact Nat.ne_of_lt (blk_lt (g := gb131) (o := .cells #[.int .u64 0, .int .u64 0] 58 (0, 0)) (by (with_reducible repeat (first | apply bN | apply bD | apply bA)); exact BK131.out)) : gb131 ≠ gb150)); have n12_ := sy n11_; clear BK129; clear BK130; clear BK131; clear HB; have BK129 := n0_; have BK130 := n1_; have BK131 := n2_; have HB := n3_; have BK150 := n4_; have GW150 := n5_; have GE150 := n6_; have NB129_150 := n7_; have NB150_129 := n8_; have NB130_150 := n9_; have NB150_130 := n10_; have NB131_150 := n11_; have NB150_131 := n12_; clear n0_ n1_ n2_ n3_ n4_ n5_ n6_ n7_ n8_ n9_ n10_ n11_ n12_; clear hb hbox hg; have hnb88 := NB150_129.out; have hnc88 := NB129_150.out; have hnb89 := NB150_130.out; have hnc89 := NB130_150.out; have hnb90 := NB150_131.out; have hnc90 := NB131_150.out; have hcz91_0 : w87.cell? ⟨gb150, 0, none⟩ = some (.int .u64 0) := (blk_cell BK150.out 0).trans rfl; have hcz91_1 : w87.cell? ⟨gb150, 1, none⟩ = some (.int .u64 0) := (blk_cell BK150.out 1).trans rfl; have hfz91_0 := blk_frozen BK150.out 0; have hfz91_1 := blk_frozen BK150.out 1; have hcz92_0 : w87.cell? ⟨gb131, 0, none⟩ = some (.int .u64 0) := (blk_cell BK131.out 0).trans rfl; have hcz92_1 : w87.cell? ⟨gb131, 1, none⟩ = some (.int .u64 0) := (blk_cell BK131.out 1).trans rfl; have hfz92_0 := blk_frozen BK131.out 0; have hfz92_1 := blk_frozen BK131.out 1))
          have n0_ : Aside0 (((((w87.setCell ⟨gb150, 0, none⟩ (.int .u64 t148)).setCell ⟨gb150, 1, none⟩ (.int .u64 t149)).setCell ⟨gb150, 0, none⟩ (.int .u64 0)).setCell ⟨gb150, 1, none⟩ (.int .u64 x12_8)).heap[gb129]? = some (.cells #[.int .u64 x130000_8, .int .u64 x130001_8] 58 (0, 0))) := ⟨by refine blk_far ?_ NB129_150.out _; refine blk_far ?_ NB129_150.out _; refine blk_far ?_ NB129_150.out _; refine blk_far ?_ NB129_150.out _; exact BK129.out⟩
          have n1_ : Aside0 (((((w87.setCell ⟨gb150, 0, none⟩ (.int .u64 t148)).setCell ⟨gb150, 1, none⟩ (.int .u64 t149)).setCell ⟨gb150, 0, none⟩ (.int .u64 0)).setCell ⟨gb150, 1, none⟩ (.int .u64 x12_8)).heap[gb130]? = some (.cells #[.int .u64 x131000_30, .int .u64 x131001_30] 58 (0, 0))) := ⟨by refine blk_far ?_ NB130_150.out _; refine blk_far ?_ NB130_150.out _; refine blk_far ?_ NB130_150.out _; refine blk_far ?_ NB130_150.out _; exact BK130.out⟩
          have n2_ : Aside0 (((((w87.setCell ⟨gb150, 0, none⟩ (.int .u64 t148)).setCell ⟨gb150, 1, none⟩ (.int .u64 t149)).setCell ⟨gb150, 0, none⟩ (.int .u64 0)).setCell ⟨gb150, 1, none⟩ (.int .u64 x12_8)).heap[gb131]? = some (.cells #[.int .u64 0, .int .u64 0] 58 (0, 0))) := ⟨by refine blk_far ?_ NB131_150.out _; refine blk_far ?_ NB131_150.out _; refine blk_far ?_ NB131_150.out _; refine blk_far ?_ NB131_150.out _; exact BK131.out⟩
          have n3_ : Aside0 (((((w87.setCell ⟨gb150, 0, none⟩ (.int .u64 t148)).setCell ⟨gb150, 1, none⟩ (.int .u64 t149)).setCell ⟨gb150, 0, none⟩ (.int .u64 0)).setCell ⟨gb150, 1, none⟩ (.int .u64 x12_8)).heap[gb150]? = some (.cells #[.int .u64 0, .int .u64 x12_8] 58 (0, 0))) := ⟨by refine blk_put (cs := #[.int .u64 0, .int .u64 t149]) ?_ 1 _ rfl; refine blk_put (cs := #[.int .u64 t148, .int .u64 t149]) ?_ 0 _ rfl; refine blk_put (cs := #[.int .u64 t148, .int .u64 0]) ?_ 1 _ rfl; refine blk_put (cs := #[.int .u64 0, .int .u64 0]) ?_ 0 _ rfl; exact BK150.out⟩
          have n4_ : Aside0 (Below w.heap.size w ((((w87.setCell ⟨gb150, 0, none⟩ (.int .u64 t148)).setCell ⟨gb150, 1, none⟩ (.int .u64 t149)).setCell ⟨gb150, 0, none⟩ (.int .u64 0)).setCell ⟨gb150, 1, none⟩ (.int .u64 x12_8))) := ⟨by repeat (first | (with_reducible first | exact HB.out | apply lA | apply lN | apply lD | refine lS ?_ ‹_›) | exact HB.out)⟩
          clear BK129; clear BK130; clear BK131; clear BK150; clear HB
          have BK129 := n0_; have BK130 := n1_; have BK131 := n2_; have BK150 := n3_; have HB := n4_; clear n0_ n1_ n2_ n3_ n4_
          generalize ((((w87.setCell ⟨gb150, 0, none⟩ (.int .u64 t148)).setCell ⟨gb150, 1, none⟩ (.int .u64 t149)).setCell ⟨gb150, 0, none⟩ (.int .u64 0)).setCell ⟨gb150, 1, none⟩ (.int .u64 x12_8)) = w900 at BK129 BK130 BK131 BK150 HB ⊢
          have hzz0_0 : w900.cell? ⟨gb150, 0, none⟩ = some (.int .u64 0) := (blk_cell BK150.out 0).trans rfl; have hzz0_1 : w900.cell? ⟨gb150, 1, none⟩ = some (.int .u64 x12_8) := (blk_cell BK150.out 1).trans rfl; have hyy0_0 := blk_frozen BK150.out 0; have hyy0_1 := blk_frozen BK150.out 1; have hzz1_0 : w900.cell? ⟨gb131, 0, none⟩ = some (.int .u64 0) := (blk_cell BK131.out 0).trans rfl; have hzz1_1 : w900.cell? ⟨gb131, 1, none⟩ = some (.int .u64 0) := (blk_cell BK131.out 1).trans rfl; have hyy1_0 := blk_frozen BK131.out 0; have hyy1_1 := blk_frozen BK131.out 1
          go_wp2
          refine bodyPost_ret (results_ct rfl _ _ gb131 58 #[.int .u64 0, .int .u64 x12_8] (0, 0) _ rfl (by refine blk_put (cs := #[.int .u64 0, .int .u64 0]) ?_ 1 _ rfl; refine blk_put (cs := #[.int .u64 0, .int .u64 0]) ?_ 0 _ rfl; exact BK131.out) Try.underlying58 rfl (by kernel_rfl)) rfl ?_
          exact ⟨by first | rfl | (simp [errW_none, errW_some] <;> rfl) | (simp [*, errW_none, errW_some] <;> rfl), by repeat (first | (with_reducible first | exact HB.out | apply lA | apply lN | apply lD | refine lS ?_ ‹_›) | exact HB.out)⟩
         ·
          rw [if_neg c80] at H
          have c80b0 : decide (x12_8 < t149) = false := decide_eq_false c80; clear c80
          by_cases c93 : t148 > t149
          ·
           rw [if_pos c93] at H
           have c93b0 : decide (t149 < t148) = true := decide_eq_true c93; clear c93; simp only [Option.some.injEq, Prod.mk.injEq] at H; obtain ⟨rfl, rfl, rfl⟩ := H; have hnb94 := NB129_130.out; have hnc94 := NB130_129.out; have hnb95 := NB129_131.out; have hnc95 := NB131_129.out; have hcz96_0 : wc.cell? ⟨gb129, 0, none⟩ = some (.int .u64 x130000_8) := (blk_cell BK129.out 0).trans rfl; have hcz96_1 : wc.cell? ⟨gb129, 1, none⟩ = some (.int .u64 x130001_8) := (blk_cell BK129.out 1).trans rfl; have hfz96_0 := blk_frozen BK129.out 0; have hfz96_1 := blk_frozen BK129.out 1; have hnb97 := NB130_131.out; have hnc97 := NB131_130.out; have hcz98_0 : wc.cell? ⟨gb130, 0, none⟩ = some (.int .u64 x131000_30) := (blk_cell BK130.out 0).trans rfl; have hcz98_1 : wc.cell? ⟨gb130, 1, none⟩ = some (.int .u64 x131001_30) := (blk_cell BK130.out 1).trans rfl; have hfz98_0 := blk_frozen BK130.out 0; have hfz98_1 := blk_frozen BK130.out 1
           go_upto_region 16 with (first | ((with_reducible refine gate_callee (f := 51) rfl ?_); refine goesL_ (some 70) rfl rfl Try.func51 (by kernel_rfl) rfl #[.int .i64 a0, .int .u64 x12_8, .agg #[.int .u64 x130000_8, .int .u64 x130001_8], .agg #[.int .u64 x131000_30, .int .u64 x131001_30]] rfl (by (try simp only [List.map_toArray, List.map_cons, List.map_nil]); first | done | rfl | (simp only [List.length_drop, List.length_take]; rfl)) ?_; (with_reducible refine (span_do.calls kj37 a0 x12_8 x130000_8 x130001_8 x131000_30 x131001_30 t148 t149 _ A79.out).mono ?_); rintro e w99 ⟨rfl, hb⟩; refine ⟨_, rfl, ?_⟩; have n0_ := Aside0.mk (blk_below (g := gb129) (o := .cells #[.int .u64 x130000_8, .int .u64 x130001_8] 58 (0, 0)) (by (with_reducible repeat (first | apply bN | apply bD | apply bA)); exact BK129.out) hb); have n1_ := Aside0.mk (blk_below (g := gb130) (o := .cells #[.int .u64 x131000_30, .int .u64 x131001_30] 58 (0, 0)) (by (with_reducible repeat (first | apply bN | apply bD | apply bA)); exact BK130.out) hb); have n2_ := Aside0.mk (blk_below (g := gb131) (o := .cells #[.int .u64 0, .int .u64 0] 58 (0, 0)) (by (with_reducible repeat (first | apply bN | apply bD | apply bA)); exact BK131.out) hb); have n3_ := Aside0.mk (below_step (by repeat (first | (with_reducible first | exact HB.out | apply lA | apply lN | apply lD | refine lS ?_ ‹_›) | exact HB.out)) hb); clear BK129; clear BK130; clear BK131; clear HB; have BK129 := n0_; have BK130 := n1_; have BK131 := n2_; have HB := n3_; clear n0_ n1_ n2_ n3_; (try clear hb); (try clear hb2); (try clear hk); (try clear hi)) | ((with_reducible refine gate_dst (N := 15) rfl ?_); refine box_event ?hg (N := 15) ?hd (cs := #[.int .u64 0, .int .u64 0]) (t := 58) ?hr ?_; (case hd => rfl); (case hg => rfl); (case hr => first | (go_simp; done) | (go_simp; rfl)); intro gb150 hg w100 hbox hb; have n0_ := Aside0.mk (blk_below (g := gb129) (o := .cells #[.int .u64 x130000_8, .int .u64 x130001_8] 58 (0, 0)) (by (with_reducible repeat (first | apply bN | apply bD | apply bA)); exact BK129.out) hb); have n1_ := Aside0.mk (blk_below (g := gb130) (o := .cells #[.int .u64 x131000_30, .int .u64 x131001_30] 58 (0, 0)) (by (with_reducible repeat (first | apply bN | apply bD | apply bA)); exact BK130.out) hb); have n2_ := Aside0.mk (blk_below (g := gb131) (o := .cells #[.int .u64 0, .int .u64 0] 58 (0, 0)) (by (with_reducible repeat (first | apply bN | apply bD | apply bA)); exact BK131.out) hb); have n3_ := Aside0.mk (below_step (by repeat (first | (with_reducible first | exact HB.out | apply lA | apply lN | apply lD | refine lS ?_ ‹_›) | exact HB.out)) hb); have n4_ := Aside0.mk (hbox); have n5_ := Aside0.mk ((by rw [hg]; exact (below_size (by repeat (first | (with_reducible first | exact HB.out | apply lA | apply lN | apply lD | refine lS ?_ ‹_›) | exact HB.out))) : w.heap.size ≤ gb150)); have n6_ := n5_; have n7_ := Aside0.mk ((by rw [hg]; exact Nat.ne_of_lt (blk_lt (g := gb129) (o := .cells #[.int .u64 x130000_8, .int .u64 x130001_8] 58 (0, 0)) (by (with_reducible repeat (first | apply bN | apply bD | apply bA)); exact BK129.out)) : gb129 ≠ gb150)); have n8_ := sy n7_; have n9_ := Aside0.mk ((by rw [hg]; exact Nat.ne_of_lt (blk_lt (g := gb130) (o := .cells #[.int .u64 x131000_30, .int .u64 x131001_30] 58 (0, 0)) (by (with_reducible repeat (first | apply bN | apply bD | apply bA)); exact BK130.out)) : gb130 ≠ gb150)); have n10_ := sy n9_; have n11_ := Aside0.mk ((by rw [hg]; exact Nat.ne_of_lt (blk_lt (g := gb131) (o := .cells #[.int .u64 0, .int .u64 0] 58 (0, 0)) (by (with_reducible repeat (first | apply bN | apply bD | apply bA)); exact BK131.out)) : gb131 ≠ gb150)); have n12_ := sy n11_; clear BK129; clear BK130; clear BK131; clear HB; have BK129 := n0_; have BK130 := n1_; have BK131 := n2_; have HB := n3_; have BK150 := n4_; have GW150 := n5_; have GE150 := n6_; have NB129_150 := n7_; have NB150_129 := n8_; have NB130_150 := n9_; have NB150_130 := n10_; have NB131_150 := n11_; have NB150_131 := n12_; clear n0_ n1_ n2_ n3_ n4_ n5_ n6_ n7_ n8_ n9_ n10_ n11_ n12_; clear hb hbox hg; have hnb101 := NB150_129.out; have hnc101 := NB129_150.out; have hnb102 := NB150_130.out; have hnc102 := NB130_150.out; have hnb103 := NB150_131.out; have hnc103 := NB131_150.out; have hcz104_0 : w100.cell? ⟨gb150, 0, none⟩ = some (.int .u64 0) := (blk_cell BK150.out 0).trans rfl; have hcz104_1 : w100.cell? ⟨gb150, 1, none⟩ = some (.int .u64 0) := (blk_cell BK150.out 1).trans rfl; have hfz104_0 := blk_frozen BK150.out 0; have hfz104_1 := blk_frozen BK150.out 1; have hcz105_0 : w100.cell? ⟨gb131, 0, none⟩ = some (.int .u64 0) := (blk_cell BK131.out 0).trans rfl; have hcz105_1 : w100.cell? ⟨gb131, 1, none⟩ = some (.int .u64 0) := (blk_cell BK131.out 1).trans rfl; have hfz105_0 := blk_frozen BK131.out 0; have hfz105_1 := blk_frozen BK131.out 1))
           have n0_ : Aside0 (((((w100.setCell ⟨gb150, 0, none⟩ (.int .u64 t148)).setCell ⟨gb150, 1, none⟩ (.int .u64 t149)).setCell ⟨gb150, 0, none⟩ (.int .u64 0)).setCell ⟨gb150, 1, none⟩ (.int .u64 x12_8)).heap[gb129]? = some (.cells #[.int .u64 x130000_8, .int .u64 x130001_8] 58 (0, 0))) := ⟨by refine blk_far ?_ NB129_150.out _; refine blk_far ?_ NB129_150.out _; refine blk_far ?_ NB129_150.out _; refine blk_far ?_ NB129_150.out _; exact BK129.out⟩
           have n1_ : Aside0 (((((w100.setCell ⟨gb150, 0, none⟩ (.int .u64 t148)).setCell ⟨gb150, 1, none⟩ (.int .u64 t149)).setCell ⟨gb150, 0, none⟩ (.int .u64 0)).setCell ⟨gb150, 1, none⟩ (.int .u64 x12_8)).heap[gb130]? = some (.cells #[.int .u64 x131000_30, .int .u64 x131001_30] 58 (0, 0))) := ⟨by refine blk_far ?_ NB130_150.out _; refine blk_far ?_ NB130_150.out _; refine blk_far ?_ NB130_150.out _; refine blk_far ?_ NB130_150.out _; exact BK130.out⟩
           have n2_ : Aside0 (((((w100.setCell ⟨gb150, 0, none⟩ (.int .u64 t148)).setCell ⟨gb150, 1, none⟩ (.int .u64 t149)).setCell ⟨gb150, 0, none⟩ (.int .u64 0)).setCell ⟨gb150, 1, none⟩ (.int .u64 x12_8)).heap[gb131]? = some (.cells #[.int .u64 0, .int .u64 0] 58 (0, 0))) := ⟨by refine blk_far ?_ NB131_150.out _; refine blk_far ?_ NB131_150.out _; refine blk_far ?_ NB131_150.out _; refine blk_far ?_ NB131_150.out _; exact BK131.out⟩
           have n3_ : Aside0 (((((w100.setCell ⟨gb150, 0, none⟩ (.int .u64 t148)).setCell ⟨gb150, 1, none⟩ (.int .u64 t149)).setCell ⟨gb150, 0, none⟩ (.int .u64 0)).setCell ⟨gb150, 1, none⟩ (.int .u64 x12_8)).heap[gb150]? = some (.cells #[.int .u64 0, .int .u64 x12_8] 58 (0, 0))) := ⟨by refine blk_put (cs := #[.int .u64 0, .int .u64 t149]) ?_ 1 _ rfl; refine blk_put (cs := #[.int .u64 t148, .int .u64 t149]) ?_ 0 _ rfl; refine blk_put (cs := #[.int .u64 t148, .int .u64 0]) ?_ 1 _ rfl; refine blk_put (cs := #[.int .u64 0, .int .u64 0]) ?_ 0 _ rfl; exact BK150.out⟩
           have n4_ : Aside0 (Below w.heap.size w ((((w100.setCell ⟨gb150, 0, none⟩ (.int .u64 t148)).setCell ⟨gb150, 1, none⟩ (.int .u64 t149)).setCell ⟨gb150, 0, none⟩ (.int .u64 0)).setCell ⟨gb150, 1, none⟩ (.int .u64 x12_8))) := ⟨by repeat (first | (with_reducible first | exact HB.out | apply lA | apply lN | apply lD | refine lS ?_ ‹_›) | exact HB.out)⟩
           clear BK129; clear BK130; clear BK131; clear BK150; clear HB
           have BK129 := n0_; have BK130 := n1_; have BK131 := n2_; have BK150 := n3_; have HB := n4_; clear n0_ n1_ n2_ n3_ n4_
           generalize ((((w100.setCell ⟨gb150, 0, none⟩ (.int .u64 t148)).setCell ⟨gb150, 1, none⟩ (.int .u64 t149)).setCell ⟨gb150, 0, none⟩ (.int .u64 0)).setCell ⟨gb150, 1, none⟩ (.int .u64 x12_8)) = w901 at BK129 BK130 BK131 BK150 HB ⊢
           have hzz0_0 : w901.cell? ⟨gb150, 0, none⟩ = some (.int .u64 0) := (blk_cell BK150.out 0).trans rfl; have hzz0_1 : w901.cell? ⟨gb150, 1, none⟩ = some (.int .u64 x12_8) := (blk_cell BK150.out 1).trans rfl; have hyy0_0 := blk_frozen BK150.out 0; have hyy0_1 := blk_frozen BK150.out 1; have hzz1_0 : w901.cell? ⟨gb131, 0, none⟩ = some (.int .u64 0) := (blk_cell BK131.out 0).trans rfl; have hzz1_1 : w901.cell? ⟨gb131, 1, none⟩ = some (.int .u64 0) := (blk_cell BK131.out 1).trans rfl; have hyy1_0 := blk_frozen BK131.out 0; have hyy1_1 := blk_frozen BK131.out 1
           go_wp2
           refine bodyPost_ret (results_ct rfl _ _ gb131 58 #[.int .u64 0, .int .u64 x12_8] (0, 0) _ rfl (by refine blk_put (cs := #[.int .u64 0, .int .u64 0]) ?_ 1 _ rfl; refine blk_put (cs := #[.int .u64 0, .int .u64 0]) ?_ 0 _ rfl; exact BK131.out) Try.underlying58 rfl (by kernel_rfl)) rfl ?_
           exact ⟨by first | rfl | (simp [errW_none, errW_some] <;> rfl) | (simp [*, errW_none, errW_some] <;> rfl), by repeat (first | (with_reducible first | exact HB.out | apply lA | apply lN | apply lD | refine lS ?_ ‹_›) | exact HB.out)⟩
          ·
           rw [if_neg c93] at H
           have c93b0 : decide (t149 < t148) = false := decide_eq_false c93; clear c93; simp only [Option.some.injEq, Prod.mk.injEq] at H; obtain ⟨rfl, rfl, rfl⟩ := H; have hnb106 := NB129_130.out; have hnc106 := NB130_129.out; have hnb107 := NB129_131.out; have hnc107 := NB131_129.out; have hcz108_0 : wc.cell? ⟨gb129, 0, none⟩ = some (.int .u64 x130000_8) := (blk_cell BK129.out 0).trans rfl; have hcz108_1 : wc.cell? ⟨gb129, 1, none⟩ = some (.int .u64 x130001_8) := (blk_cell BK129.out 1).trans rfl; have hfz108_0 := blk_frozen BK129.out 0; have hfz108_1 := blk_frozen BK129.out 1; have hnb109 := NB130_131.out; have hnc109 := NB131_130.out; have hcz110_0 : wc.cell? ⟨gb130, 0, none⟩ = some (.int .u64 x131000_30) := (blk_cell BK130.out 0).trans rfl; have hcz110_1 : wc.cell? ⟨gb130, 1, none⟩ = some (.int .u64 x131001_30) := (blk_cell BK130.out 1).trans rfl; have hfz110_0 := blk_frozen BK130.out 0; have hfz110_1 := blk_frozen BK130.out 1
           go_wp2_with (first | ((with_reducible refine gate_callee (f := 51) rfl ?_); refine goesL_ (some 70) rfl rfl Try.func51 (by kernel_rfl) rfl #[.int .i64 a0, .int .u64 x12_8, .agg #[.int .u64 x130000_8, .int .u64 x130001_8], .agg #[.int .u64 x131000_30, .int .u64 x131001_30]] rfl (by (try simp only [List.map_toArray, List.map_cons, List.map_nil]); first | done | rfl | (simp only [List.length_drop, List.length_take]; rfl)) ?_; (with_reducible refine (span_do.calls kj37 a0 x12_8 x130000_8 x130001_8 x131000_30 x131001_30 t148 t149 _ A79.out).mono ?_); rintro e w111 ⟨rfl, hb⟩; refine ⟨_, rfl, ?_⟩; have n0_ := Aside0.mk (blk_below (g := gb129) (o := .cells #[.int .u64 x130000_8, .int .u64 x130001_8] 58 (0, 0)) (by (with_reducible repeat (first | apply bN | apply bD | apply bA)); exact BK129.out) hb); have n1_ := Aside0.mk (blk_below (g := gb130) (o := .cells #[.int .u64 x131000_30, .int .u64 x131001_30] 58 (0, 0)) (by (with_reducible repeat (first | apply bN | apply bD | apply bA)); exact BK130.out) hb); have n2_ := Aside0.mk (blk_below (g := gb131) (o := .cells #[.int .u64 0, .int .u64 0] 58 (0, 0)) (by (with_reducible repeat (first | apply bN | apply bD | apply bA)); exact BK131.out) hb); have n3_ := Aside0.mk (below_step (by repeat (first | (with_reducible first | exact HB.out | apply lA | apply lN | apply lD | refine lS ?_ ‹_›) | exact HB.out)) hb); clear BK129; clear BK130; clear BK131; clear HB; have BK129 := n0_; have BK130 := n1_; have BK131 := n2_; have HB := n3_; clear n0_ n1_ n2_ n3_; (try clear hb); (try clear hb2); (try clear hk); (try clear hi)) | ((with_reducible refine gate_dst (N := 15) rfl ?_); refine box_event ?hg (N := 15) ?hd (cs := #[.int .u64 0, .int .u64 0]) (t := 58) ?hr ?_; (case hd => rfl); (case hg => rfl); (case hr => first | (go_simp; done) | (go_simp; rfl)); intro gb150 hg w112 hbox hb; have n0_ := Aside0.mk (blk_below (g := gb129) (o := .cells #[.int .u64 x130000_8, .int .u64 x130001_8] 58 (0, 0)) (by (with_reducible repeat (first | apply bN | apply bD | apply bA)); exact BK129.out) hb); have n1_ := Aside0.mk (blk_below (g := gb130) (o := .cells #[.int .u64 x131000_30, .int .u64 x131001_30] 58 (0, 0)) (by (with_reducible repeat (first | apply bN | apply bD | apply bA)); exact BK130.out) hb); have n2_ := Aside0.mk (blk_below (g := gb131) (o := .cells #[.int .u64 0, .int .u64 0] 58 (0, 0)) (by (with_reducible repeat (first | apply bN | apply bD | apply bA)); exact BK131.out) hb); have n3_ := Aside0.mk (below_step (by repeat (first | (with_reducible first | exact HB.out | apply lA | apply lN | apply lD | refine lS ?_ ‹_›) | exact HB.out)) hb); have n4_ := Aside0.mk (hbox); have n5_ := Aside0.mk ((by rw [hg]; exact (below_size (by repeat (first | (with_reducible first | exact HB.out | apply lA | apply lN | apply lD | refine lS ?_ ‹_›) | exact HB.out))) : w.heap.size ≤ gb150)); have n6_ := n5_; have n7_ := Aside0.mk ((by rw [hg]; exact Nat.ne_of_lt (blk_lt (g := gb129) (o := .cells #[.int .u64 x130000_8, .int .u64 x130001_8] 58 (0, 0)) (by (with_reducible repeat (first | apply bN | apply bD | apply bA)); exact BK129.out)) : gb129 ≠ gb150)); have n8_ := sy n7_; have n9_ := Aside0.mk ((by rw [hg]; exact Nat.ne_of_lt (blk_lt (g := gb130) (o := .cells #[.int .u64 x131000_30, .int .u64 x131001_30] 58 (0, 0)) (by (with_reducible repeat (first | apply bN | apply bD | apply bA)); exact BK130.out)) : gb130 ≠ gb150)); have n10_ := sy n9_; have n11_ := Aside0.mk ((by rw [hg]; exact Nat.ne_of_lt (blk_lt (g := gb131) (o := .cells #[.int .u64 0, .int .u64 0] 58 (0, 0)) (by (with_reducible repeat (first | apply bN | apply bD | apply bA)); exact BK131.out)) : gb131 ≠ gb150)); have n12_ := sy n11_; clear BK129; clear BK130; clear BK131; clear HB; have BK129 := n0_; have BK130 := n1_; have BK131 := n2_; have HB := n3_; have BK150 := n4_; have GW150 := n5_; have GE150 := n6_; have NB129_150 := n7_; have NB150_129 := n8_; have NB130_150 := n9_; have NB150_130 := n10_; have NB131_150 := n11_; have NB150_131 := n12_; clear n0_ n1_ n2_ n3_ n4_ n5_ n6_ n7_ n8_ n9_ n10_ n11_ n12_; clear hb hbox hg; have hnb113 := NB150_129.out; have hnc113 := NB129_150.out; have hnb114 := NB150_130.out; have hnc114 := NB130_150.out; have hnb115 := NB150_131.out; have hnc115 := NB131_150.out; have hcz116_0 : w112.cell? ⟨gb150, 0, none⟩ = some (.int .u64 0) := (blk_cell BK150.out 0).trans rfl; have hcz116_1 : w112.cell? ⟨gb150, 1, none⟩ = some (.int .u64 0) := (blk_cell BK150.out 1).trans rfl; have hfz116_0 := blk_frozen BK150.out 0; have hfz116_1 := blk_frozen BK150.out 1; have hcz117_0 : w112.cell? ⟨gb131, 0, none⟩ = some (.int .u64 0) := (blk_cell BK131.out 0).trans rfl; have hcz117_1 : w112.cell? ⟨gb131, 1, none⟩ = some (.int .u64 0) := (blk_cell BK131.out 1).trans rfl; have hfz117_0 := blk_frozen BK131.out 0; have hfz117_1 := blk_frozen BK131.out 1))
           refine bodyPost_ret (results_ct rfl _ _ gb131 58 #[.int .u64 t148, .int .u64 t149] (0, 0) _ rfl (by (with_reducible repeat (first | apply bN | apply bD | apply bA)); refine blk_put (cs := #[.int .u64 t148, .int .u64 0]) ?_ 1 _ rfl; (with_reducible repeat (first | apply bN | apply bD | apply bA)); refine blk_put (cs := #[.int .u64 0, .int .u64 0]) ?_ 0 _ rfl; (with_reducible repeat (first | apply bN | apply bD | apply bA)); refine blk_far ?_ NB131_150.out _; (with_reducible repeat (first | apply bN | apply bD | apply bA)); refine blk_far ?_ NB131_150.out _; (with_reducible repeat (first | apply bN | apply bD | apply bA)); exact BK131.out) Try.underlying58 rfl (by kernel_rfl)) rfl ?_
           exact ⟨by first | rfl | (simp [errW_none, errW_some] <;> rfl) | (simp [*, errW_none, errW_some] <;> rfl), by repeat (first | (with_reducible first | exact HB.out | apply lA | apply lN | apply lD | refine lS ?_ ‹_›) | exact HB.out)⟩
 ·
  rw [if_neg c6] at H
  have c6b0 : (t133 == 0) = false := beq_eq_false_iff_ne.mpr c6; have c6b1 : (t133 != 0) = true := bne_iff_ne.mpr c6; simp only [Option.some.injEq, Prod.mk.injEq] at H; obtain ⟨rfl, rfl, rfl⟩ := H
  go_enter Try.func32, Try.ntmps32
  go_wp2_with (first | ((with_reducible refine gate_dst (N := 6) rfl ?_); refine box_event ?hg (N := 6) ?hd (cs := #[.int .u64 a2_0, .int .u64 a2_1]) (t := 58) ?hr ?_; (case hd => rfl); (case hg => rfl); (case hr => first | (go_simp; done) | (go_simp; rfl)); intro gb129 hg w118 hbox hb; have n0_ := Aside0.mk (below_step (by repeat (first | (with_reducible first | exact HB.out | apply lA | apply lN | apply lD) | exact HB.out)) hb); have n1_ := Aside0.mk (hbox); have n2_ := Aside0.mk ((by rw [hg]; exact (below_size (by repeat (first | (with_reducible first | exact HB.out | apply lA | apply lN | apply lD) | exact HB.out))) : w.heap.size ≤ gb129)); have n3_ := n2_; clear HB; have HB := n0_; have BK129 := n1_; have GW129 := n2_; have GE129 := n3_; clear n0_ n1_ n2_ n3_; clear hb hbox hg) | ((with_reducible refine gate_dst (N := 7) rfl ?_); refine box_event ?hg (N := 7) ?hd (cs := #[.int .u64 a3_0, .int .u64 a3_1]) (t := 58) ?hr ?_; (case hd => rfl); (case hg => rfl); (case hr => first | (go_simp; done) | (go_simp; rfl)); intro gb130 hg w119 hbox hb; have n0_ := Aside0.mk (blk_below (g := gb129) (o := .cells #[.int .u64 a2_0, .int .u64 a2_1] 58 (0, 0)) (by (with_reducible repeat (first | apply bN | apply bD | apply bA)); exact BK129.out) hb); have n1_ := Aside0.mk (below_step (by repeat (first | (with_reducible first | exact HB.out | apply lA | apply lN | apply lD | refine lS ?_ ‹_›) | exact HB.out)) hb); have n2_ := Aside0.mk (hbox); have n3_ := Aside0.mk ((by rw [hg]; exact (below_size (by repeat (first | (with_reducible first | exact HB.out | apply lA | apply lN | apply lD | refine lS ?_ ‹_›) | exact HB.out))) : w.heap.size ≤ gb130)); have n4_ := n3_; have n5_ := Aside0.mk ((by rw [hg]; exact Nat.ne_of_lt (blk_lt (g := gb129) (o := .cells #[.int .u64 a2_0, .int .u64 a2_1] 58 (0, 0)) (by (with_reducible repeat (first | apply bN | apply bD | apply bA)); exact BK129.out)) : gb129 ≠ gb130)); have n6_ := sy n5_; clear BK129; clear HB; have BK129 := n0_; have HB := n1_; have BK130 := n2_; have GW130 := n3_; have GE130 := n4_; have NB129_130 := n5_; have NB130_129 := n6_; clear n0_ n1_ n2_ n3_ n4_ n5_ n6_; clear hb hbox hg) | ((with_reducible refine gate_dst (N := 8) rfl ?_); refine box_event ?hg (N := 8) ?hd (cs := #[.int .u64 0, .int .u64 0]) (t := 58) ?hr ?_; (case hd => rfl); (case hg => rfl); (case hr => first | (go_simp; done) | (go_simp; rfl)); intro gb131 hg w120 hbox hb; have n0_ := Aside0.mk (blk_below (g := gb129) (o := .cells #[.int .u64 a2_0, .int .u64 a2_1] 58 (0, 0)) (by (with_reducible repeat (first | apply bN | apply bD | apply bA)); exact BK129.out) hb); have n1_ := Aside0.mk (blk_below (g := gb130) (o := .cells #[.int .u64 a3_0, .int .u64 a3_1] 58 (0, 0)) (by (with_reducible repeat (first | apply bN | apply bD | apply bA)); exact BK130.out) hb); have n2_ := Aside0.mk (below_step (by repeat (first | (with_reducible first | exact HB.out | apply lA | apply lN | apply lD | refine lS ?_ ‹_›) | exact HB.out)) hb); have n3_ := Aside0.mk (hbox); have n4_ := Aside0.mk ((by rw [hg]; exact (below_size (by repeat (first | (with_reducible first | exact HB.out | apply lA | apply lN | apply lD | refine lS ?_ ‹_›) | exact HB.out))) : w.heap.size ≤ gb131)); have n5_ := n4_; have n6_ := Aside0.mk ((by rw [hg]; exact Nat.ne_of_lt (blk_lt (g := gb129) (o := .cells #[.int .u64 a2_0, .int .u64 a2_1] 58 (0, 0)) (by (with_reducible repeat (first | apply bN | apply bD | apply bA)); exact BK129.out)) : gb129 ≠ gb131)); have n7_ := sy n6_; have n8_ := Aside0.mk ((by rw [hg]; exact Nat.ne_of_lt (blk_lt (g := gb130) (o := .cells #[.int .u64 a3_0, .int .u64 a3_1] 58 (0, 0)) (by (with_reducible repeat (first | apply bN | apply bD | apply bA)); exact BK130.out)) : gb130 ≠ gb131)); have n9_ := sy n8_; clear BK129; clear BK130; clear HB; have BK129 := n0_; have BK130 := n1_; have HB := n2_; have BK131 := n3_; have GW131 := n4_; have GE131 := n5_; have NB129_131 := n6_; have NB131_129 := n7_; have NB130_131 := n8_; have NB131_130 := n9_; clear n0_ n1_ n2_ n3_ n4_ n5_ n6_ n7_ n8_ n9_; clear hb hbox hg) | ((with_reducible refine gate_callee (f := 42) rfl ?_); refine goesL_ (some 19) rfl rfl Try.func42 (by kernel_rfl) rfl #[.int .i64 a0, .bool a1, .int .u64 0, .int .u64 0] rfl (by (try simp only [List.map_toArray, List.map_cons, List.map_nil]); first | done | rfl | (simp only [List.length_drop, List.length_take]; rfl)) ?_; (with_reducible refine (alu_Do.calls a0 a1 0 0 t132 t133 _ A5.out).mono ?_); rintro e w' ⟨rfl, ⟨nd, rfl⟩⟩; refine ⟨_, rfl, ?_⟩; (try (rw [drewN_self w120]; generalize hq_ : World.drewN w120 _ = w120; have n0_ : Aside0 (w120.heap[gb129]? = some (.cells #[.int .u64 a2_0, .int .u64 a2_1] 58 (0, 0))) := ⟨by rw [← hq_]; exact (by (with_reducible repeat (first | apply bN | apply bD | apply bA)); exact BK129.out)⟩; have n1_ : Aside0 (w120.heap[gb130]? = some (.cells #[.int .u64 a3_0, .int .u64 a3_1] 58 (0, 0))) := ⟨by rw [← hq_]; exact (by (with_reducible repeat (first | apply bN | apply bD | apply bA)); exact BK130.out)⟩; have n2_ : Aside0 (w120.heap[gb131]? = some (.cells #[.int .u64 0, .int .u64 0] 58 (0, 0))) := ⟨by rw [← hq_]; exact (by (with_reducible repeat (first | apply bN | apply bD | apply bA)); exact BK131.out)⟩; have n3_ : Aside0 (Below w.heap.size w w120) := ⟨by rw [← hq_]; exact (by repeat (first | (with_reducible first | exact HB.out | apply lA | apply lN | apply lD | refine lS ?_ ‹_›) | exact HB.out))⟩; clear BK129 BK130 BK131 HB hq_; have BK129 := n0_; have BK130 := n1_; have BK131 := n2_; have HB := n3_; clear n0_ n1_ n2_ n3_)); have hnb121 := NB131_129.out; have hnc121 := NB129_131.out; have hnb122 := NB131_130.out; have hnc122 := NB130_131.out; have hcz123_0 : w120.cell? ⟨gb131, 0, none⟩ = some (.int .u64 0) := (blk_cell BK131.out 0).trans rfl; have hcz123_1 : w120.cell? ⟨gb131, 1, none⟩ = some (.int .u64 0) := (blk_cell BK131.out 1).trans rfl; have hfz123_0 := blk_frozen BK131.out 0; have hfz123_1 := blk_frozen BK131.out 1))
  refine bodyPost_ret (results_ct rfl _ _ gb131 58 #[.int .u64 0, .int .u64 0] (0, 0) _ rfl (by (with_reducible repeat (first | apply bN | apply bD | apply bA)); refine blk_put (cs := #[.int .u64 0, .int .u64 0]) ?_ 1 _ rfl; (with_reducible repeat (first | apply bN | apply bD | apply bA)); refine blk_put (cs := #[.int .u64 0, .int .u64 0]) ?_ 0 _ rfl; (with_reducible repeat (first | apply bN | apply bD | apply bA)); exact BK131.out) Try.underlying58 rfl (by kernel_rfl)) rfl ?_
  exact ⟨by first | rfl | (simp [errW_none, errW_some] <;> rfl) | (simp [*, errW_none, errW_some] <;> rfl), by repeat (first | (with_reducible first | exact HB.out | apply lA | apply lN | apply lD | refine lS ?_ ‹_›) | exact HB.out)⟩

end Go.Proofs.Ytladlljnpmpdpaa.PSpanNarrow
