-- Written by a program of this session (a variant of the print), for this claim. Lean checks it.
import Derived.Test.YtladlljnpmpdpaaPTnumSetsx0
import Derived.Test.YtladlljnpmpdpaaPTnumSetsx2
import Derived.Test.YtladlljnpmpdpaaPTnumSetsx3
namespace Go.Proofs.Ytladlljnpmpdpaa.PTnumSets
open Go.RowKit Go.Proofs.YtladlljnpmpdpaaW.PrintWords Go.Proofs.YtladlljnpmpdpaaW.PrintLast Go.Proofs.YtladlljnpmpdpaaW.PrintMore
attribute [local go_sem] max2_int min2_int max_two min_two max_three min_three max_four min_four   -- for this text's walks alone
attribute [local go_sem high] Go.Proofs.Ytladlljnpmpdpaa.NotLaw.not_u64 Go.Proofs.Ytladlljnpmpdpaa.NotLaw.not_u32 Go.Proofs.Ytladlljnpmpdpaa.NotLaw.not_u16 Go.Proofs.Ytladlljnpmpdpaa.NotLaw.not_u8
set_option linter.unusedVariables false
set_option linter.unusedSimpArgs false

/-! ### tnum_Do: function 14 -/
mutual
def tnum_Do.j0 : Nat → Int → Bool → Int → Int → Int → Int → Option (Int × Int × Int)
 | 0, _, _, _, _, _, _ => none
 | k + 1, x0, x1, x161000, x161001, x162000, x162001 => if x0 = 128 then (tnum_Do.j1 k x0 x1 true x161000 x161001 x162000 x162001) else (tnum_Do.j1 k x0 x1 (x0 == 176) x161000 x161001 x162000 x162001)
def tnum_Do.j1 : Nat → Int → Bool → Bool → Int → Int → Int → Int → Option (Int × Int × Int)
 | 0, _, _, _, _, _, _, _ => none
 | k + 1, x0, x1, x12, x161000, x161001, x162000, x162001 => if x0 = 128 then (tnum_Do.j2 k x0 x1 x12 x161000 x161001 x161000 x161001) else (tnum_Do.j2 k x0 x1 x12 x161000 x161001 x162000 x162001)
def tnum_Do.j2 : Nat → Int → Bool → Bool → Int → Int → Int → Int → Option (Int × Int × Int)
 | 0, _, _, _, _, _, _, _ => none
 | k + 1, x0, x1, x12, x161000, x161001, x162000, x162001 => if x162001 = 0 then (if x161001 = 0 then (tnum_Do.j3 k x0 x1 true x161000 x161001 x162000 x162001) else (tnum_Do.j3 k x0 x1 x12 x161000 x161001 x162000 x162001)) else (tnum_Do.j3 k x0 x1 false x161000 x161001 x162000 x162001)
def tnum_Do.j3 : Nat → Int → Bool → Bool → Int → Int → Int → Int → Option (Int × Int × Int)
 | 0, _, _, _, _, _, _, _ => none
 | k + 1, x0, x1, x55, x161000, x161001, x162000, x162001 => if x55 = true then ((alu_Do.f x0 x1 x161000 x162000).bind fun bt173 => ((tnum_Const.f bt173.1).bind fun bt175 => (some (bt175.1, bt175.2, bt173.2)))) else ((tnum_do.f k x0 x1 x161000 x161001 x162000 x162001).bind fun bt177 => (if x1 = true then (some (bt177.1, bt177.2, 0)) else ((tnum_cut.f bt177.1 bt177.2).bind fun bt180 => (some (bt180.1, bt180.2, 0)))))
end
def tnum_Do.f (k : Nat) (a0 : Int) (a1 : Bool) (a2_0 : Int) (a2_1 : Int) (a3_0 : Int) (a3_1 : Int) : Option (Int × Int × Int) := (alu_Do.f a0 a1 0 0).bind fun bt163 => (if bt163.2 = 0 then ((tnum_tidy.f a2_0 a2_1).bind fun bt165 => ((tnum_tidy.f a3_0 a3_1).bind fun bt167 => (if a1 = true then (tnum_Do.j0 k a0 a1 bt165.1 bt165.2 bt167.1 bt167.2) else ((tnum_cut.f bt165.1 bt165.2).bind fun bt169 => ((tnum_cut.f bt167.1 bt167.2).bind fun bt171 => (tnum_Do.j0 k a0 a1 bt169.1 bt169.2 bt171.1 bt171.2)))))) else (some (0, 0, bt163.2)))
theorem tnum_Do.mono_l : ∀ k, (∀ y0 y1 y2 y3 y4 y5, LeO (tnum_Do.j0 k y0 y1 y2 y3 y4 y5) (tnum_Do.j0 (k + 1) y0 y1 y2 y3 y4 y5)) ∧ (∀ y0 y1 y2 y3 y4 y5 y6, LeO (tnum_Do.j1 k y0 y1 y2 y3 y4 y5 y6) (tnum_Do.j1 (k + 1) y0 y1 y2 y3 y4 y5 y6)) ∧ (∀ y0 y1 y2 y3 y4 y5 y6, LeO (tnum_Do.j2 k y0 y1 y2 y3 y4 y5 y6) (tnum_Do.j2 (k + 1) y0 y1 y2 y3 y4 y5 y6)) ∧ (∀ y0 y1 y2 y3 y4 y5 y6, LeO (tnum_Do.j3 k y0 y1 y2 y3 y4 y5 y6) (tnum_Do.j3 (k + 1) y0 y1 y2 y3 y4 y5 y6))
 | 0 => ⟨fun _ _ _ _ _ _ r h => by simp [tnum_Do.j0] at h, fun _ _ _ _ _ _ _ r h => by simp [tnum_Do.j1] at h, fun _ _ _ _ _ _ _ r h => by simp [tnum_Do.j2] at h, fun _ _ _ _ _ _ _ r h => by simp [tnum_Do.j3] at h⟩
 | k + 1 => by
  obtain ⟨ih0, ih1, ih2, ih3⟩ := tnum_Do.mono_l k
  refine ⟨?_, ?_, ?_, ?_⟩
  ·
   intro y0 y1 y2 y3 y4 y5
   unfold tnum_Do.j0
   repeat' first
   | (with_reducible exact ih0 _ _ _ _ _ _)
   | (with_reducible exact ih1 _ _ _ _ _ _ _)
   | (with_reducible exact ih2 _ _ _ _ _ _ _)
   | (with_reducible exact ih3 _ _ _ _ _ _ _)
   | (with_reducible exact tnum_do.mono _ _ _ _ _ _ _)
   | (with_reducible exact LeO.refl _)
   | (with_reducible exact LeO.none _)
   | (with_reducible refine LeO.ite ?_ ?_)
   | (with_reducible refine LeO.bind ?_ (fun _ => ?_))
   | exact ih0 _ _ _ _ _ _
   | exact ih1 _ _ _ _ _ _ _
   | exact ih2 _ _ _ _ _ _ _
   | exact ih3 _ _ _ _ _ _ _
   | exact tnum_do.mono _ _ _ _ _ _ _
   | exact LeO.none _
   | refine LeO.ite ?_ ?_
   | refine LeO.bind ?_ (fun _ => ?_)
  ·
   intro y0 y1 y2 y3 y4 y5 y6
   unfold tnum_Do.j1
   repeat' first
   | (with_reducible exact ih0 _ _ _ _ _ _)
   | (with_reducible exact ih1 _ _ _ _ _ _ _)
   | (with_reducible exact ih2 _ _ _ _ _ _ _)
   | (with_reducible exact ih3 _ _ _ _ _ _ _)
   | (with_reducible exact tnum_do.mono _ _ _ _ _ _ _)
   | (with_reducible exact LeO.refl _)
   | (with_reducible exact LeO.none _)
   | (with_reducible refine LeO.ite ?_ ?_)
   | (with_reducible refine LeO.bind ?_ (fun _ => ?_))
   | exact ih0 _ _ _ _ _ _
   | exact ih1 _ _ _ _ _ _ _
   | exact ih2 _ _ _ _ _ _ _
   | exact ih3 _ _ _ _ _ _ _
   | exact tnum_do.mono _ _ _ _ _ _ _
   | exact LeO.none _
   | refine LeO.ite ?_ ?_
   | refine LeO.bind ?_ (fun _ => ?_)
  ·
   intro y0 y1 y2 y3 y4 y5 y6
   unfold tnum_Do.j2
   repeat' first
   | (with_reducible exact ih0 _ _ _ _ _ _)
   | (with_reducible exact ih1 _ _ _ _ _ _ _)
   | (with_reducible exact ih2 _ _ _ _ _ _ _)
   | (with_reducible exact ih3 _ _ _ _ _ _ _)
   | (with_reducible exact tnum_do.mono _ _ _ _ _ _ _)
   | (with_reducible exact LeO.refl _)
   | (with_reducible exact LeO.none _)
   | (with_reducible refine LeO.ite ?_ ?_)
   | (with_reducible refine LeO.bind ?_ (fun _ => ?_))
   | exact ih0 _ _ _ _ _ _
   | exact ih1 _ _ _ _ _ _ _
   | exact ih2 _ _ _ _ _ _ _
   | exact ih3 _ _ _ _ _ _ _
   | exact tnum_do.mono _ _ _ _ _ _ _
   | exact LeO.none _
   | refine LeO.ite ?_ ?_
   | refine LeO.bind ?_ (fun _ => ?_)
  ·
   intro y0 y1 y2 y3 y4 y5 y6
   unfold tnum_Do.j3
   repeat' first
   | (with_reducible exact ih0 _ _ _ _ _ _)
   | (with_reducible exact ih1 _ _ _ _ _ _ _)
   | (with_reducible exact ih2 _ _ _ _ _ _ _)
   | (with_reducible exact ih3 _ _ _ _ _ _ _)
   | (with_reducible exact tnum_do.mono _ _ _ _ _ _ _)
   | (with_reducible exact LeO.refl _)
   | (with_reducible exact LeO.none _)
   | (with_reducible refine LeO.ite ?_ ?_)
   | (with_reducible refine LeO.bind ?_ (fun _ => ?_))
   | exact ih0 _ _ _ _ _ _
   | exact ih1 _ _ _ _ _ _ _
   | exact ih2 _ _ _ _ _ _ _
   | exact ih3 _ _ _ _ _ _ _
   | exact tnum_do.mono _ _ _ _ _ _ _
   | exact LeO.none _
   | refine LeO.ite ?_ ?_
   | refine LeO.bind ?_ (fun _ => ?_)
theorem tnum_Do.mono : ∀ a0 a1 a2 a3 a4 a5 k, LeO (tnum_Do.f k a0 a1 a2 a3 a4 a5) (tnum_Do.f (k + 1) a0 a1 a2 a3 a4 a5) := by
 intro a0 a1 a2 a3 a4 a5 k
 obtain ⟨ih0, ih1, ih2, ih3⟩ := tnum_Do.mono_l k
 unfold tnum_Do.f
 repeat' first
   | (with_reducible exact ih0 _ _ _ _ _ _)
   | (with_reducible exact ih1 _ _ _ _ _ _ _)
   | (with_reducible exact ih2 _ _ _ _ _ _ _)
   | (with_reducible exact ih3 _ _ _ _ _ _ _)
   | (with_reducible exact tnum_do.mono _ _ _ _ _ _ _)
   | (with_reducible exact LeO.refl _)
   | (with_reducible exact LeO.none _)
   | (with_reducible refine LeO.ite ?_ ?_)
   | (with_reducible refine LeO.bind ?_ (fun _ => ?_))
   | exact ih0 _ _ _ _ _ _
   | exact ih1 _ _ _ _ _ _ _
   | exact ih2 _ _ _ _ _ _ _
   | exact ih3 _ _ _ _ _ _ _
   | exact tnum_do.mono _ _ _ _ _ _ _
   | exact LeO.none _
   | refine LeO.ite ?_ ?_
   | refine LeO.bind ?_ (fun _ => ?_)
set_option maxHeartbeats 8000000 in
set_option maxRecDepth 100000 in
theorem tnum_Do.calls (k : Nat) (a0 : Int) (a1 : Bool) (a2_0 : Int) (a2_1 : Int) (a3_0 : Int) (a3_1 : Int) (r1 : Int) (r2 : Int) (r3 : Int) (w : World) (h : tnum_Do.f k a0 a1 a2_0 a2_1 a3_0 a3_1 = some (r1, r2, r3)) :
  Calls Try.prog 14 #[.int .i64 a0, .bool a1, .agg #[.int .u64 a2_0, .int .u64 a2_1], .agg #[.int .u64 a3_0, .int .u64 a3_1]] w fun e w' => e = .returned (.tuple #[.agg #[.int .u64 r1, .int .u64 r2], .int .i64 r3]) ∧ Below w.heap.size w w' := by
 have hu24 := Try.underlying24
 have HB := Aside0.mk (Below.refl w.heap.size w)
 have H : ((alu_Do.f a0 a1 0 0).bind fun bt163 => (if bt163.2 = 0 then ((tnum_tidy.f a2_0 a2_1).bind fun bt165 => ((tnum_tidy.f a3_0 a3_1).bind fun bt167 => (if a1 = true then (tnum_Do.j0 k a0 a1 bt165.1 bt165.2 bt167.1 bt167.2) else ((tnum_cut.f bt165.1 bt165.2).bind fun bt169 => ((tnum_cut.f bt167.1 bt167.2).bind fun bt171 => (tnum_Do.j0 k a0 a1 bt169.1 bt169.2 bt171.1 bt171.2)))))) else (some (0, 0, bt163.2)))) = some (r1, r2, r3) := h
 clear h; replace H := Option.bind_eq_some_iff.mp H; obtain ⟨⟨t163, t164⟩, A50, H⟩ := H
 replace H : (if t164 = 0 then ((tnum_tidy.f a2_0 a2_1).bind fun bt165 => ((tnum_tidy.f a3_0 a3_1).bind fun bt167 => (if a1 = true then (tnum_Do.j0 k a0 a1 bt165.1 bt165.2 bt167.1 bt167.2) else ((tnum_cut.f bt165.1 bt165.2).bind fun bt169 => ((tnum_cut.f bt167.1 bt167.2).bind fun bt171 => (tnum_Do.j0 k a0 a1 bt169.1 bt169.2 bt171.1 bt171.2)))))) else (some (0, 0, t164))) = some (r1, r2, r3) := H
 have A5 := Aside0.mk A50; clear A50
 by_cases c6 : t164 = 0
 ·
  rw [if_pos c6] at H
  have c6b0 : (t164 == 0) = true := beq_iff_eq.mpr c6; have c6b1 : (t164 != 0) = false := bne_eq_false_iff_eq.mpr c6; clear c6; replace H := Option.bind_eq_some_iff.mp H; obtain ⟨⟨t165, t166⟩, A70, H⟩ := H
  replace H : ((tnum_tidy.f a3_0 a3_1).bind fun bt167 => (if a1 = true then (tnum_Do.j0 k a0 a1 t165 t166 bt167.1 bt167.2) else ((tnum_cut.f t165 t166).bind fun bt169 => ((tnum_cut.f bt167.1 bt167.2).bind fun bt171 => (tnum_Do.j0 k a0 a1 bt169.1 bt169.2 bt171.1 bt171.2))))) = some (r1, r2, r3) := H
  have A7 := Aside0.mk A70; clear A70; replace H := Option.bind_eq_some_iff.mp H; obtain ⟨⟨t167, t168⟩, A80, H⟩ := H
  replace H : (if a1 = true then (tnum_Do.j0 k a0 a1 t165 t166 t167 t168) else ((tnum_cut.f t165 t166).bind fun bt169 => ((tnum_cut.f t167 t168).bind fun bt171 => (tnum_Do.j0 k a0 a1 bt169.1 bt169.2 bt171.1 bt171.2)))) = some (r1, r2, r3) := H
  have A8 := Aside0.mk A80; clear A80
  have HC9 := Aside0.mk H
  clear H
  go_enter Try.func14, Try.ntmps14
  try go_wp2_with (first | ((with_reducible refine gate_dst (N := 6) rfl ?_); refine box_event ?hg (N := 6) ?hd (cs := #[.int .u64 a2_0, .int .u64 a2_1]) (t := 24) ?hr ?_; (case hd => rfl); (case hg => rfl); (case hr => first | (go_simp; done) | (go_simp; rfl)); intro gb160 hg w10 hbox hb; have n0_ := Aside0.mk (below_step (by repeat (first | (with_reducible first | exact HB.out | apply lA | apply lN | apply lD) | exact HB.out)) hb); have n1_ := Aside0.mk (hbox); have n2_ := Aside0.mk ((by rw [hg]; exact (below_size (by repeat (first | (with_reducible first | exact HB.out | apply lA | apply lN | apply lD) | exact HB.out))) : w.heap.size ≤ gb160)); have n3_ := n2_; clear HB; have HB := n0_; have BK160 := n1_; have GW160 := n2_; have GE160 := n3_; clear n0_ n1_ n2_ n3_; clear hb hbox hg) | ((with_reducible refine gate_dst (N := 7) rfl ?_); refine box_event ?hg (N := 7) ?hd (cs := #[.int .u64 a3_0, .int .u64 a3_1]) (t := 24) ?hr ?_; (case hd => rfl); (case hg => rfl); (case hr => first | (go_simp; done) | (go_simp; rfl)); intro gb161 hg w11 hbox hb; have n0_ := Aside0.mk (blk_below (g := gb160) (o := .cells #[.int .u64 a2_0, .int .u64 a2_1] 24 (0, 0)) (by (with_reducible repeat (first | apply bN | apply bD | apply bA)); exact BK160.out) hb); have n1_ := Aside0.mk (below_step (by repeat (first | (with_reducible first | exact HB.out | apply lA | apply lN | apply lD | refine lS ?_ ‹_›) | exact HB.out)) hb); have n2_ := Aside0.mk (hbox); have n3_ := Aside0.mk ((by rw [hg]; exact (below_size (by repeat (first | (with_reducible first | exact HB.out | apply lA | apply lN | apply lD | refine lS ?_ ‹_›) | exact HB.out))) : w.heap.size ≤ gb161)); have n4_ := n3_; have n5_ := Aside0.mk ((by rw [hg]; exact Nat.ne_of_lt (blk_lt (g := gb160) (o := .cells #[.int .u64 a2_0, .int .u64 a2_1] 24 (0, 0)) (by (with_reducible repeat (first | apply bN | apply bD | apply bA)); exact BK160.out)) : gb160 ≠ gb161)); have n6_ := sy n5_; clear BK160; clear HB; have BK160 := n0_; have HB := n1_; have BK161 := n2_; have GW161 := n3_; have GE161 := n4_; have NB160_161 := n5_; have NB161_160 := n6_; clear n0_ n1_ n2_ n3_ n4_ n5_ n6_; clear hb hbox hg) | ((with_reducible refine gate_dst (N := 8) rfl ?_); refine box_event ?hg (N := 8) ?hd (cs := #[.int .u64 0, .int .u64 0]) (t := 24) ?hr ?_; (case hd => rfl); (case hg => rfl); (case hr => first | (go_simp; done) | (go_simp; rfl)); intro gb162 hg w12 hbox hb; have n0_ := Aside0.mk (blk_below (g := gb160) (o := .cells #[.int .u64 a2_0, .int .u64 a2_1] 24 (0, 0)) (by (with_reducible repeat (first | apply bN | apply bD | apply bA)); exact BK160.out) hb); have n1_ := Aside0.mk (blk_below (g := gb161) (o := .cells #[.int .u64 a3_0, .int .u64 a3_1] 24 (0, 0)) (by (with_reducible repeat (first | apply bN | apply bD | apply bA)); exact BK161.out) hb); have n2_ := Aside0.mk (below_step (by repeat (first | (with_reducible first | exact HB.out | apply lA | apply lN | apply lD | refine lS ?_ ‹_›) | exact HB.out)) hb); have n3_ := Aside0.mk (hbox); have n4_ := Aside0.mk ((by rw [hg]; exact (below_size (by repeat (first | (with_reducible first | exact HB.out | apply lA | apply lN | apply lD | refine lS ?_ ‹_›) | exact HB.out))) : w.heap.size ≤ gb162)); have n5_ := n4_; have n6_ := Aside0.mk ((by rw [hg]; exact Nat.ne_of_lt (blk_lt (g := gb160) (o := .cells #[.int .u64 a2_0, .int .u64 a2_1] 24 (0, 0)) (by (with_reducible repeat (first | apply bN | apply bD | apply bA)); exact BK160.out)) : gb160 ≠ gb162)); have n7_ := sy n6_; have n8_ := Aside0.mk ((by rw [hg]; exact Nat.ne_of_lt (blk_lt (g := gb161) (o := .cells #[.int .u64 a3_0, .int .u64 a3_1] 24 (0, 0)) (by (with_reducible repeat (first | apply bN | apply bD | apply bA)); exact BK161.out)) : gb161 ≠ gb162)); have n9_ := sy n8_; clear BK160; clear BK161; clear HB; have BK160 := n0_; have BK161 := n1_; have HB := n2_; have BK162 := n3_; have GW162 := n4_; have GE162 := n5_; have NB160_162 := n6_; have NB162_160 := n7_; have NB161_162 := n8_; have NB162_161 := n9_; clear n0_ n1_ n2_ n3_ n4_ n5_ n6_ n7_ n8_ n9_; clear hb hbox hg) | ((with_reducible refine gate_callee (f := 42) rfl ?_); refine goesL_ (some 19) rfl rfl Try.func42 (by kernel_rfl) rfl #[.int .i64 a0, .bool a1, .int .u64 0, .int .u64 0] rfl (by (try simp only [List.map_toArray, List.map_cons, List.map_nil]); first | done | rfl | (simp only [List.length_drop, List.length_take]; rfl)) ?_; (with_reducible refine (alu_Do.calls a0 a1 0 0 t163 t164 _ A5.out).mono ?_); rintro e w' ⟨rfl, ⟨nd, rfl⟩⟩; refine ⟨_, rfl, ?_⟩; (try (rw [drewN_self w12]; generalize hq_ : World.drewN w12 _ = w12; have n0_ : Aside0 (w12.heap[gb160]? = some (.cells #[.int .u64 a2_0, .int .u64 a2_1] 24 (0, 0))) := ⟨by rw [← hq_]; exact (by (with_reducible repeat (first | apply bN | apply bD | apply bA)); exact BK160.out)⟩; have n1_ : Aside0 (w12.heap[gb161]? = some (.cells #[.int .u64 a3_0, .int .u64 a3_1] 24 (0, 0))) := ⟨by rw [← hq_]; exact (by (with_reducible repeat (first | apply bN | apply bD | apply bA)); exact BK161.out)⟩; have n2_ : Aside0 (w12.heap[gb162]? = some (.cells #[.int .u64 0, .int .u64 0] 24 (0, 0))) := ⟨by rw [← hq_]; exact (by (with_reducible repeat (first | apply bN | apply bD | apply bA)); exact BK162.out)⟩; have n3_ : Aside0 (Below w.heap.size w w12) := ⟨by rw [← hq_]; exact (by repeat (first | (with_reducible first | exact HB.out | apply lA | apply lN | apply lD | refine lS ?_ ‹_›) | exact HB.out))⟩; clear BK160 BK161 BK162 HB hq_; have BK160 := n0_; have BK161 := n1_; have BK162 := n2_; have HB := n3_; clear n0_ n1_ n2_ n3_))))
  have n0_ := Aside0.mk (blk_drew BK160.out); have n1_ := Aside0.mk (blk_drew BK161.out); have n2_ := Aside0.mk (blk_drew BK162.out)
  have n3_ := Aside0.mk (below_drew1 HB.out)
  clear BK160; clear BK161; clear BK162; clear HB; have BK160 := n0_; have BK161 := n1_; have BK162 := n2_; have HB := n3_; clear n0_ n1_ n2_ n3_
  refine start_ (n := 6) (S := fun w' => w'.cell? ⟨gb160, 0, none⟩ = some (.int .u64 a2_0) ∧ w'.cell? ⟨gb160, 1, none⟩ = some (.int .u64 a2_1) ∧ w'.cell? ⟨gb161, 0, none⟩ = some (.int .u64 a3_0) ∧ w'.cell? ⟨gb161, 1, none⟩ = some (.int .u64 a3_1)) (ds := [4, 5]) #[false, false, false, false, false, false] (by kernel_rfl) rfl rfl ⟨(blk_cell BK160.out 0).trans rfl, (blk_cell BK160.out 1).trans rfl, (blk_cell BK161.out 0).trans rfl, (blk_cell BK161.out 1).trans rfl⟩ (fun hHeld => ?_)
  generalize w12.drew = w13 at BK160 BK161 BK162 HB hHeld ⊢
  refine take_ (i := 0) (N := some 26) (v := ?_) (a' := ?_) #[true, false, false, false, false, false] rfl rfl (by kernel_rfl) (fun _ _ _ h => h) (Or.inl ⟨by rfl, ?_⟩) hHeld ?_ ?_
  rotate_left
  ·
   rintro w' ⟨s0, s1, s2, s3⟩
   go_simp; with_reducible rfl
  rotate_left
  ·
   simp only [Act.put, List.setIfInBounds_toArray, List.set_cons_zero, List.set_cons_succ, i64_w, i32_w]
   rfl
  refine take_ (i := 2) (N := some 28) (v := ?_) (a' := ?_) #[true, false, true, false, false, false] rfl rfl (by kernel_rfl) (fun _ _ _ h => h) (Or.inl ⟨by rfl, ?_⟩) hHeld ?_ ?_
  rotate_left
  ·
   rintro w' ⟨s0, s1, s2, s3⟩
   go_simp; with_reducible rfl
  rotate_left
  ·
   simp only [Act.put, List.setIfInBounds_toArray, List.set_cons_zero, List.set_cons_succ, i64_w, i32_w]
   rfl
  refine one_ (i := 1) (N := some 27) #[true, true, true, false, false, false] rfl rfl (by kernel_rfl) (by decide) (fun K hK => ?_)
  refine goes_ Try.func43 (by kernel_rfl) rfl #[.agg #[.int .u64 a2_0, .int .u64 a2_1]] (by rfl) rfl rfl (by (try simp only [List.map_toArray, List.map_cons, List.map_nil]); first | done | rfl | (simp only [List.length_drop, List.length_take]; rfl)) ?_
  with_reducible refine (tnum_tidy.calls a2_0 a2_1 t165 t166 _ A7.out).mono ?_
  rintro e w14 ⟨rfl, hb⟩
  refine ⟨_, rfl, ?_⟩
  have n0_ := Aside0.mk (blk_below (g := gb160) (o := .cells #[.int .u64 a2_0, .int .u64 a2_1] 24 (0, 0)) (by (with_reducible repeat (first | apply bN | apply bD | apply bA)); exact BK160.out) hb)
  have n1_ := Aside0.mk (blk_below (g := gb161) (o := .cells #[.int .u64 a3_0, .int .u64 a3_1] 24 (0, 0)) (by (with_reducible repeat (first | apply bN | apply bD | apply bA)); exact BK161.out) hb)
  have n2_ := Aside0.mk (blk_below (g := gb162) (o := .cells #[.int .u64 0, .int .u64 0] 24 (0, 0)) (by (with_reducible repeat (first | apply bN | apply bD | apply bA)); exact BK162.out) hb)
  have n3_ := Aside0.mk (below_step (by repeat (first | (with_reducible first | exact HB.out | apply lA | apply lN | apply lD | refine lS ?_ ‹_›) | exact HB.out)) hb)
  clear BK160; clear BK161; clear BK162; clear HB; have BK160 := n0_; have BK161 := n1_; have BK162 := n2_; have HB := n3_; clear n0_ n1_ n2_ n3_
  (try clear hb)
  (try clear hb2)
  (try clear hk)
  (try clear hi)
  refine hK.out _ _ ⟨(blk_cell BK160.out 0).trans rfl, (blk_cell BK160.out 1).trans rfl, (blk_cell BK161.out 0).trans rfl, (blk_cell BK161.out 1).trans rfl⟩ (fun hHeld => ?_)
  clear hK K
  refine norm_ (a' := ?_) ?_ ?_
  rotate_left
  ·
   show Act.put _ (some 27) _ = _
   simp only [Act.put, List.setIfInBounds_toArray, List.set_cons_zero, List.set_cons_succ, i64_w, i32_w]
   rfl
  refine one_ (i := 3) (N := some 29) #[true, true, true, true, false, false] rfl rfl (by kernel_rfl) (by decide) (fun K hK => ?_)
  refine goes_ Try.func43 (by kernel_rfl) rfl #[.agg #[.int .u64 a3_0, .int .u64 a3_1]] (by rfl) rfl rfl (by (try simp only [List.map_toArray, List.map_cons, List.map_nil]); first | done | rfl | (simp only [List.length_drop, List.length_take]; rfl)) ?_
  with_reducible refine (tnum_tidy.calls a3_0 a3_1 t167 t168 _ A8.out).mono ?_
  rintro e w15 ⟨rfl, hb⟩
  refine ⟨_, rfl, ?_⟩
  have n0_ := Aside0.mk (blk_below (g := gb160) (o := .cells #[.int .u64 a2_0, .int .u64 a2_1] 24 (0, 0)) (by (with_reducible repeat (first | apply bN | apply bD | apply bA)); exact BK160.out) hb)
  have n1_ := Aside0.mk (blk_below (g := gb161) (o := .cells #[.int .u64 a3_0, .int .u64 a3_1] 24 (0, 0)) (by (with_reducible repeat (first | apply bN | apply bD | apply bA)); exact BK161.out) hb)
  have n2_ := Aside0.mk (blk_below (g := gb162) (o := .cells #[.int .u64 0, .int .u64 0] 24 (0, 0)) (by (with_reducible repeat (first | apply bN | apply bD | apply bA)); exact BK162.out) hb)
  have n3_ := Aside0.mk (below_step (by repeat (first | (with_reducible first | exact HB.out | apply lA | apply lN | apply lD | refine lS ?_ ‹_›) | exact HB.out)) hb)
  clear BK160; clear BK161; clear BK162; clear HB; have BK160 := n0_; have BK161 := n1_; have BK162 := n2_; have HB := n3_; clear n0_ n1_ n2_ n3_
  (try clear hb)
  (try clear hb2)
  (try clear hk)
  (try clear hi)
  refine hK.out _ _ ⟨(blk_cell BK160.out 0).trans rfl, (blk_cell BK160.out 1).trans rfl, (blk_cell BK161.out 0).trans rfl, (blk_cell BK161.out 1).trans rfl⟩ (fun hHeld => ?_)
  clear hK K
  refine norm_ (a' := ?_) ?_ ?_
  rotate_left
  ·
   show Act.put _ (some 29) _ = _
   simp only [Act.put, List.setIfInBounds_toArray, List.set_cons_zero, List.set_cons_succ, i64_w, i32_w]
   rfl
  refine last_ (i := 4) (N := none) #[true, true, true, true, true, false] rfl rfl (by kernel_rfl) (by decide) (fun K hK => ?_)
  have hs16 : w15.cell? ⟨gb160, 0, none⟩ = some (.int .u64 a2_0) := (blk_cell BK160.out 0).trans rfl
  have hfs16 := blk_frozen BK160.out 0
  have hns16_1 := NB161_160.out
  have hns16_2 := NB162_160.out
  have hms16_1 := NB160_161.out
  have hms16_2 := NB160_162.out
  have hs17 : w15.cell? ⟨gb160, 1, none⟩ = some (.int .u64 a2_1) := (blk_cell BK160.out 1).trans rfl
  have hfs17 := blk_frozen BK160.out 1
  have hns17_1 := NB161_160.out
  have hns17_2 := NB162_160.out
  have hms17_1 := NB160_161.out
  have hms17_2 := NB160_162.out
  refine skip_ (w1 := ?_) (by rfl) rfl ?_ ?_
  rotate_left
  ·
   go_simp
   rfl
  refine hK.out _ _ ?_
  clear hK K
  refine last_ (i := 5) (N := none) #[true, true, true, true, true, true] rfl rfl (by kernel_rfl) (by decide) (fun K hK => ?_)
  have hs18 : w15.cell? ⟨gb161, 0, none⟩ = some (.int .u64 a3_0) := (blk_cell BK161.out 0).trans rfl
  have hfs18 := blk_frozen BK161.out 0
  have hns18_0 := NB160_161.out
  have hns18_2 := NB162_161.out
  have hms18_0 := NB161_160.out
  have hms18_2 := NB161_162.out
  have hs19 : w15.cell? ⟨gb161, 1, none⟩ = some (.int .u64 a3_1) := (blk_cell BK161.out 1).trans rfl
  have hfs19 := blk_frozen BK161.out 1
  have hns19_0 := NB160_161.out
  have hns19_2 := NB162_161.out
  have hms19_0 := NB161_160.out
  have hms19_2 := NB161_162.out
  refine skip_ (w1 := ?_) (by rfl) rfl ?_ ?_
  rotate_left
  ·
   go_simp
   rfl
  refine hK.out _ _ ?_
  clear hK K
  refine done_ (by kernel_rfl) ?_
  go_upto_if 31 with (fail)
  go_cut [] (fun wc => ∃ (kq : Nat) (x161000_8 : Int) (x161001_8 : Int) (x162000_8 : Int) (x162001_8 : Int), Aside0 (tnum_Do.j0 kq a0 a1 x161000_8 x161001_8 x162000_8 x162001_8 = some (r1, r2, r3)) ∧ Aside0 (kq ≤ k) ∧ Aside0 (wc.heap[gb160]? = some (.cells #[.int .u64 x161000_8, .int .u64 x161001_8] 24 (0, 0))) ∧ Aside0 (wc.heap[gb161]? = some (.cells #[.int .u64 x162000_8, .int .u64 x162001_8] 24 (0, 0))) ∧ Aside0 (wc.heap[gb162]? = some (.cells #[.int .u64 0, .int .u64 0] 24 (0, 0))) ∧ Aside0 (Below w.heap.size w wc))
  case first =>
   have H := HC9.out
   clear HC9
   by_cases c20 : a1 = true
   ·
    subst c20
    have H1 : (tnum_Do.j0 k a0 true t165 t166 t167 t168) = some (r1, r2, r3) := by rw [if_pos rfl] at H; exact H
    clear H; have H := H1; clear H1
    have H' := Aside0.mk H
    clear H
    go_wp2
    go_meet
    case rel => exact ⟨_, (t165), (t166), (t167), (t168), H', ⟨by first | omega | exact Nat.le_refl _⟩, ⟨by (with_reducible repeat (first | apply bN | apply bD | apply bA)); refine blk_far ?_ NB160_161.out _; (with_reducible repeat (first | apply bN | apply bD | apply bA)); refine blk_far ?_ NB160_161.out _; (with_reducible repeat (first | apply bN | apply bD | apply bA)); refine blk_put (cs := #[.int .u64 t165, .int .u64 a2_1]) ?_ 1 _ rfl; (with_reducible repeat (first | apply bN | apply bD | apply bA)); refine blk_put (cs := #[.int .u64 a2_0, .int .u64 a2_1]) ?_ 0 _ rfl; (with_reducible repeat (first | apply bN | apply bD | apply bA)); exact BK160.out⟩, ⟨by (with_reducible repeat (first | apply bN | apply bD | apply bA)); refine blk_put (cs := #[.int .u64 t167, .int .u64 a3_1]) ?_ 1 _ rfl; (with_reducible repeat (first | apply bN | apply bD | apply bA)); refine blk_put (cs := #[.int .u64 a3_0, .int .u64 a3_1]) ?_ 0 _ rfl; (with_reducible repeat (first | apply bN | apply bD | apply bA)); refine blk_far ?_ NB161_160.out _; (with_reducible repeat (first | apply bN | apply bD | apply bA)); refine blk_far ?_ NB161_160.out _; (with_reducible repeat (first | apply bN | apply bD | apply bA)); exact BK161.out⟩, ⟨by (with_reducible repeat (first | apply bN | apply bD | apply bA)); refine blk_far ?_ NB162_161.out _; (with_reducible repeat (first | apply bN | apply bD | apply bA)); refine blk_far ?_ NB162_161.out _; (with_reducible repeat (first | apply bN | apply bD | apply bA)); refine blk_far ?_ NB162_160.out _; (with_reducible repeat (first | apply bN | apply bD | apply bA)); refine blk_far ?_ NB162_160.out _; (with_reducible repeat (first | apply bN | apply bD | apply bA)); exact BK162.out⟩, ⟨by repeat (first | (with_reducible first | exact HB.out | apply lA | apply lN | apply lD | refine lS ?_ ‹_›) | exact HB.out)⟩⟩
   ·
    replace c20 := Bool.eq_false_iff.mpr c20
    subst c20
    have H1 : ((tnum_cut.f t165 t166).bind fun bt169 => ((tnum_cut.f t167 t168).bind fun bt171 => (tnum_Do.j0 k a0 false bt169.1 bt169.2 bt171.1 bt171.2))) = some (r1, r2, r3) := by rw [if_neg (show ¬ (false = true) by decide)] at H; exact H
    clear H; have H := H1; clear H1; replace H := Option.bind_eq_some_iff.mp H; obtain ⟨⟨t169, t170⟩, A210, H⟩ := H
    replace H : ((tnum_cut.f t167 t168).bind fun bt171 => (tnum_Do.j0 k a0 false t169 t170 bt171.1 bt171.2)) = some (r1, r2, r3) := H
    have A21 := Aside0.mk A210; clear A210; replace H := Option.bind_eq_some_iff.mp H; obtain ⟨⟨t171, t172⟩, A220, H⟩ := H
    replace H : (tnum_Do.j0 k a0 false t169 t170 t171 t172) = some (r1, r2, r3) := H
    have A22 := Aside0.mk A220; clear A220
    have H' := Aside0.mk H
    clear H
    try go_wp2
    have n0_ : Aside0 (((((w15.setCell ⟨gb160, 0, none⟩ (.int .u64 t165)).setCell ⟨gb160, 1, none⟩ (.int .u64 t166)).setCell ⟨gb161, 0, none⟩ (.int .u64 t167)).setCell ⟨gb161, 1, none⟩ (.int .u64 t168)).heap[gb160]? = some (.cells #[.int .u64 t165, .int .u64 t166] 24 (0, 0))) := ⟨by (with_reducible repeat (first | apply bN | apply bD | apply bA)); refine blk_far ?_ NB160_161.out _; (with_reducible repeat (first | apply bN | apply bD | apply bA)); refine blk_far ?_ NB160_161.out _; (with_reducible repeat (first | apply bN | apply bD | apply bA)); refine blk_put (cs := #[.int .u64 t165, .int .u64 a2_1]) ?_ 1 _ rfl; (with_reducible repeat (first | apply bN | apply bD | apply bA)); refine blk_put (cs := #[.int .u64 a2_0, .int .u64 a2_1]) ?_ 0 _ rfl; (with_reducible repeat (first | apply bN | apply bD | apply bA)); exact BK160.out⟩
    have n1_ : Aside0 (((((w15.setCell ⟨gb160, 0, none⟩ (.int .u64 t165)).setCell ⟨gb160, 1, none⟩ (.int .u64 t166)).setCell ⟨gb161, 0, none⟩ (.int .u64 t167)).setCell ⟨gb161, 1, none⟩ (.int .u64 t168)).heap[gb161]? = some (.cells #[.int .u64 t167, .int .u64 t168] 24 (0, 0))) := ⟨by (with_reducible repeat (first | apply bN | apply bD | apply bA)); refine blk_put (cs := #[.int .u64 t167, .int .u64 a3_1]) ?_ 1 _ rfl; (with_reducible repeat (first | apply bN | apply bD | apply bA)); refine blk_put (cs := #[.int .u64 a3_0, .int .u64 a3_1]) ?_ 0 _ rfl; (with_reducible repeat (first | apply bN | apply bD | apply bA)); refine blk_far ?_ NB161_160.out _; (with_reducible repeat (first | apply bN | apply bD | apply bA)); refine blk_far ?_ NB161_160.out _; (with_reducible repeat (first | apply bN | apply bD | apply bA)); exact BK161.out⟩
    have n2_ : Aside0 (((((w15.setCell ⟨gb160, 0, none⟩ (.int .u64 t165)).setCell ⟨gb160, 1, none⟩ (.int .u64 t166)).setCell ⟨gb161, 0, none⟩ (.int .u64 t167)).setCell ⟨gb161, 1, none⟩ (.int .u64 t168)).heap[gb162]? = some (.cells #[.int .u64 0, .int .u64 0] 24 (0, 0))) := ⟨by (with_reducible repeat (first | apply bN | apply bD | apply bA)); refine blk_far ?_ NB162_161.out _; (with_reducible repeat (first | apply bN | apply bD | apply bA)); refine blk_far ?_ NB162_161.out _; (with_reducible repeat (first | apply bN | apply bD | apply bA)); refine blk_far ?_ NB162_160.out _; (with_reducible repeat (first | apply bN | apply bD | apply bA)); refine blk_far ?_ NB162_160.out _; (with_reducible repeat (first | apply bN | apply bD | apply bA)); exact BK162.out⟩
    have n3_ : Aside0 (Below w.heap.size w ((((w15.setCell ⟨gb160, 0, none⟩ (.int .u64 t165)).setCell ⟨gb160, 1, none⟩ (.int .u64 t166)).setCell ⟨gb161, 0, none⟩ (.int .u64 t167)).setCell ⟨gb161, 1, none⟩ (.int .u64 t168))) := ⟨by repeat (first | (with_reducible first | exact HB.out | apply lA | apply lN | apply lD | refine lS ?_ ‹_›) | exact HB.out)⟩
    (try clear BK160)
    (try clear BK161)
    (try clear BK162)
    (try clear HB)
    generalize ((((w15.setCell ⟨gb160, 0, none⟩ (.int .u64 t165)).setCell ⟨gb160, 1, none⟩ (.int .u64 t166)).setCell ⟨gb161, 0, none⟩ (.int .u64 t167)).setCell ⟨gb161, 1, none⟩ (.int .u64 t168)) = w23 at n0_ n1_ n2_ n3_ ⊢
    have BK160 := n0_; have BK161 := n1_; have BK162 := n2_; have HB := n3_; clear n0_ n1_ n2_ n3_; have n0_ := Aside0.mk (blk_drew BK160.out); have n1_ := Aside0.mk (blk_drew BK161.out); have n2_ := Aside0.mk (blk_drew BK162.out)
    have n3_ := Aside0.mk (below_drew1 HB.out)
    clear BK160; clear BK161; clear BK162; clear HB; have BK160 := n0_; have BK161 := n1_; have BK162 := n2_; have HB := n3_; clear n0_ n1_ n2_ n3_
    refine start_ (n := 6) (S := fun w' => w'.cell? ⟨gb160, 0, none⟩ = some (.int .u64 t165) ∧ w'.cell? ⟨gb160, 1, none⟩ = some (.int .u64 t166) ∧ w'.cell? ⟨gb161, 0, none⟩ = some (.int .u64 t167) ∧ w'.cell? ⟨gb161, 1, none⟩ = some (.int .u64 t168)) (ds := [4, 5]) #[false, false, false, false, false, false] (by kernel_rfl) rfl rfl ⟨(blk_cell BK160.out 0).trans rfl, (blk_cell BK160.out 1).trans rfl, (blk_cell BK161.out 0).trans rfl, (blk_cell BK161.out 1).trans rfl⟩ (fun hHeld => ?_)
    generalize w23.drew = w24 at BK160 BK161 BK162 HB hHeld ⊢
    refine take_ (i := 0) (N := some 32) (v := ?_) (a' := ?_) #[true, false, false, false, false, false] rfl rfl (by kernel_rfl) (fun _ _ _ h => h) (Or.inl ⟨by rfl, ?_⟩) hHeld ?_ ?_
    rotate_left
    ·
     rintro w' ⟨s0, s1, s2, s3⟩
     go_simp; with_reducible rfl
    rotate_left
    ·
     simp only [Act.put, List.setIfInBounds_toArray, List.set_cons_zero, List.set_cons_succ, i64_w, i32_w]
     rfl
    refine take_ (i := 2) (N := some 34) (v := ?_) (a' := ?_) #[true, false, true, false, false, false] rfl rfl (by kernel_rfl) (fun _ _ _ h => h) (Or.inl ⟨by rfl, ?_⟩) hHeld ?_ ?_
    rotate_left
    ·
     rintro w' ⟨s0, s1, s2, s3⟩
     go_simp; with_reducible rfl
    rotate_left
    ·
     simp only [Act.put, List.setIfInBounds_toArray, List.set_cons_zero, List.set_cons_succ, i64_w, i32_w]
     rfl
    refine one_ (i := 1) (N := some 33) #[true, true, true, false, false, false] rfl rfl (by kernel_rfl) (by decide) (fun K hK => ?_)
    refine goes_ Try.func44 (by kernel_rfl) rfl #[.agg #[.int .u64 t165, .int .u64 t166]] (by rfl) rfl rfl (by (try simp only [List.map_toArray, List.map_cons, List.map_nil]); first | done | rfl | (simp only [List.length_drop, List.length_take]; rfl)) ?_
    with_reducible refine (tnum_cut.calls t165 t166 t169 t170 _ A21.out).mono ?_
    rintro e w25 ⟨rfl, hb⟩
    refine ⟨_, rfl, ?_⟩
    have n0_ := Aside0.mk (blk_below (g := gb160) (o := .cells #[.int .u64 t165, .int .u64 t166] 24 (0, 0)) (by (with_reducible repeat (first | apply bN | apply bD | apply bA)); exact BK160.out) hb)
    have n1_ := Aside0.mk (blk_below (g := gb161) (o := .cells #[.int .u64 t167, .int .u64 t168] 24 (0, 0)) (by (with_reducible repeat (first | apply bN | apply bD | apply bA)); exact BK161.out) hb)
    have n2_ := Aside0.mk (blk_below (g := gb162) (o := .cells #[.int .u64 0, .int .u64 0] 24 (0, 0)) (by (with_reducible repeat (first | apply bN | apply bD | apply bA)); exact BK162.out) hb)
    have n3_ := Aside0.mk (below_step (by repeat (first | (with_reducible first | exact HB.out | apply lA | apply lN | apply lD | refine lS ?_ ‹_›) | exact HB.out)) hb)
    clear BK160; clear BK161; clear BK162; clear HB; have BK160 := n0_; have BK161 := n1_; have BK162 := n2_; have HB := n3_; clear n0_ n1_ n2_ n3_
    (try clear hb)
    (try clear hb2)
    (try clear hk)
    (try clear hi)
    refine hK.out _ _ ⟨(blk_cell BK160.out 0).trans rfl, (blk_cell BK160.out 1).trans rfl, (blk_cell BK161.out 0).trans rfl, (blk_cell BK161.out 1).trans rfl⟩ (fun hHeld => ?_)
    clear hK K
    refine norm_ (a' := ?_) ?_ ?_
    rotate_left
    ·
     show Act.put _ (some 33) _ = _
     simp only [Act.put, List.setIfInBounds_toArray, List.set_cons_zero, List.set_cons_succ, i64_w, i32_w]
     rfl
    refine one_ (i := 3) (N := some 35) #[true, true, true, true, false, false] rfl rfl (by kernel_rfl) (by decide) (fun K hK => ?_)
    refine goes_ Try.func44 (by kernel_rfl) rfl #[.agg #[.int .u64 t167, .int .u64 t168]] (by rfl) rfl rfl (by (try simp only [List.map_toArray, List.map_cons, List.map_nil]); first | done | rfl | (simp only [List.length_drop, List.length_take]; rfl)) ?_
    with_reducible refine (tnum_cut.calls t167 t168 t171 t172 _ A22.out).mono ?_
    rintro e w26 ⟨rfl, hb⟩
    refine ⟨_, rfl, ?_⟩
    have n0_ := Aside0.mk (blk_below (g := gb160) (o := .cells #[.int .u64 t165, .int .u64 t166] 24 (0, 0)) (by (with_reducible repeat (first | apply bN | apply bD | apply bA)); exact BK160.out) hb)
    have n1_ := Aside0.mk (blk_below (g := gb161) (o := .cells #[.int .u64 t167, .int .u64 t168] 24 (0, 0)) (by (with_reducible repeat (first | apply bN | apply bD | apply bA)); exact BK161.out) hb)
    have n2_ := Aside0.mk (blk_below (g := gb162) (o := .cells #[.int .u64 0, .int .u64 0] 24 (0, 0)) (by (with_reducible repeat (first | apply bN | apply bD | apply bA)); exact BK162.out) hb)
    have n3_ := Aside0.mk (below_step (by repeat (first | (with_reducible first | exact HB.out | apply lA | apply lN | apply lD | refine lS ?_ ‹_›) | exact HB.out)) hb)
    clear BK160; clear BK161; clear BK162; clear HB; have BK160 := n0_; have BK161 := n1_; have BK162 := n2_; have HB := n3_; clear n0_ n1_ n2_ n3_
    (try clear hb)
    (try clear hb2)
    (try clear hk)
    (try clear hi)
    refine hK.out _ _ ⟨(blk_cell BK160.out 0).trans rfl, (blk_cell BK160.out 1).trans rfl, (blk_cell BK161.out 0).trans rfl, (blk_cell BK161.out 1).trans rfl⟩ (fun hHeld => ?_)
    clear hK K
    refine norm_ (a' := ?_) ?_ ?_
    rotate_left
    ·
     show Act.put _ (some 35) _ = _
     simp only [Act.put, List.setIfInBounds_toArray, List.set_cons_zero, List.set_cons_succ, i64_w, i32_w]
     rfl
    refine last_ (i := 4) (N := none) #[true, true, true, true, true, false] rfl rfl (by kernel_rfl) (by decide) (fun K hK => ?_)
    have hs27 : w26.cell? ⟨gb160, 0, none⟩ = some (.int .u64 t165) := (blk_cell BK160.out 0).trans rfl
    have hfs27 := blk_frozen BK160.out 0
    have hns27_1 := NB161_160.out
    have hns27_2 := NB162_160.out
    have hms27_1 := NB160_161.out
    have hms27_2 := NB160_162.out
    have hs28 : w26.cell? ⟨gb160, 1, none⟩ = some (.int .u64 t166) := (blk_cell BK160.out 1).trans rfl
    have hfs28 := blk_frozen BK160.out 1
    have hns28_1 := NB161_160.out
    have hns28_2 := NB162_160.out
    have hms28_1 := NB160_161.out
    have hms28_2 := NB160_162.out
    refine skip_ (w1 := ?_) (by rfl) rfl ?_ ?_
    rotate_left
    ·
     go_simp
     rfl
    refine hK.out _ _ ?_
    clear hK K
    refine last_ (i := 5) (N := none) #[true, true, true, true, true, true] rfl rfl (by kernel_rfl) (by decide) (fun K hK => ?_)
    have hs29 : w26.cell? ⟨gb161, 0, none⟩ = some (.int .u64 t167) := (blk_cell BK161.out 0).trans rfl
    have hfs29 := blk_frozen BK161.out 0
    have hns29_0 := NB160_161.out
    have hns29_2 := NB162_161.out
    have hms29_0 := NB161_160.out
    have hms29_2 := NB161_162.out
    have hs30 : w26.cell? ⟨gb161, 1, none⟩ = some (.int .u64 t168) := (blk_cell BK161.out 1).trans rfl
    have hfs30 := blk_frozen BK161.out 1
    have hns30_0 := NB160_161.out
    have hns30_2 := NB162_161.out
    have hms30_0 := NB161_160.out
    have hms30_2 := NB161_162.out
    refine skip_ (w1 := ?_) (by rfl) rfl ?_ ?_
    rotate_left
    ·
     go_simp
     rfl
    refine hK.out _ _ ?_
    clear hK K
    refine done_ (by kernel_rfl) ?_
    try go_wp2
    go_meet
    case rel => exact ⟨_, (t169), (t170), (t171), (t172), H', ⟨by first | omega | exact Nat.le_refl _⟩, ⟨by (with_reducible repeat (first | apply bN | apply bD | apply bA)); refine blk_far ?_ NB160_161.out _; (with_reducible repeat (first | apply bN | apply bD | apply bA)); refine blk_far ?_ NB160_161.out _; (with_reducible repeat (first | apply bN | apply bD | apply bA)); refine blk_put (cs := #[.int .u64 t169, .int .u64 t166]) ?_ 1 _ rfl; (with_reducible repeat (first | apply bN | apply bD | apply bA)); refine blk_put (cs := #[.int .u64 t165, .int .u64 t166]) ?_ 0 _ rfl; (with_reducible repeat (first | apply bN | apply bD | apply bA)); exact BK160.out⟩, ⟨by (with_reducible repeat (first | apply bN | apply bD | apply bA)); refine blk_put (cs := #[.int .u64 t171, .int .u64 t168]) ?_ 1 _ rfl; (with_reducible repeat (first | apply bN | apply bD | apply bA)); refine blk_put (cs := #[.int .u64 t167, .int .u64 t168]) ?_ 0 _ rfl; (with_reducible repeat (first | apply bN | apply bD | apply bA)); refine blk_far ?_ NB161_160.out _; (with_reducible repeat (first | apply bN | apply bD | apply bA)); refine blk_far ?_ NB161_160.out _; (with_reducible repeat (first | apply bN | apply bD | apply bA)); exact BK161.out⟩, ⟨by (with_reducible repeat (first | apply bN | apply bD | apply bA)); refine blk_far ?_ NB162_161.out _; (with_reducible repeat (first | apply bN | apply bD | apply bA)); refine blk_far ?_ NB162_161.out _; (with_reducible repeat (first | apply bN | apply bD | apply bA)); refine blk_far ?_ NB162_160.out _; (with_reducible repeat (first | apply bN | apply bD | apply bA)); refine blk_far ?_ NB162_160.out _; (with_reducible repeat (first | apply bN | apply bD | apply bA)); exact BK162.out⟩, ⟨by repeat (first | (with_reducible first | exact HB.out | apply lA | apply lN | apply lD | refine lS ?_ ‹_›) | exact HB.out)⟩⟩
  case rest =>
   clear HC9
   try clear c1
   try clear c2
   try clear p2
   try clear c4
   try clear c6
   try clear c6b0
   try clear c6b1
   try clear c14
   try clear c20
   obtain ⟨kq, x161000_8, x161001_8, x162000_8, x162001_8, HA, HJ8, BK160, BK161, BK162, HB⟩ := hcut
   cases kq with
   | zero => exact absurd HA.out (by simp [tnum_Do.j0])
   | succ kj8 =>
    have H := HA.out
    clear HA
    simp only [tnum_Do.j0] at H
    have HC31 := Aside0.mk H
    clear H
    go_upto_region 7 with (fail)
    go_cut [12] (fun v12 wc => ∃ (kq : Nat) (x12_30 : Bool), v12 = .bool x12_30 ∧ Aside0 (tnum_Do.j1 kq a0 a1 x12_30 x161000_8 x161001_8 x162000_8 x162001_8 = some (r1, r2, r3)) ∧ Aside0 (kq ≤ kj8) ∧ Aside0 (wc.heap[gb160]? = some (.cells #[.int .u64 x161000_8, .int .u64 x161001_8] 24 (0, 0))) ∧ Aside0 (wc.heap[gb161]? = some (.cells #[.int .u64 x162000_8, .int .u64 x162001_8] 24 (0, 0))) ∧ Aside0 (wc.heap[gb162]? = some (.cells #[.int .u64 0, .int .u64 0] 24 (0, 0))) ∧ Aside0 (Below w.heap.size w wc))
    case first =>
     have H := HC31.out
     clear HC31
     by_cases c32 : a0 = 128
     ·
      rw [if_pos c32] at H
      have c32b0 : (a0 == 128) = true := beq_iff_eq.mpr c32; have c32b1 : (a0 != 128) = false := bne_eq_false_iff_eq.mpr c32; clear c32
      (first | rw [c32b0] | (simp only [i64_w, i32_w]; rw [c32b0]) | skip)
      have H' := Aside0.mk H
      clear H
      go_wp2
      go_meet
      case rel => exact ⟨_, (true), (by first | rfl | (simp; done) | (simp [*]; done)), H', ⟨by have := HJ8.out; first | omega | exact Nat.le_refl _⟩, ⟨by (with_reducible repeat (first | apply bN | apply bD | apply bA)); exact BK160.out⟩, ⟨by (with_reducible repeat (first | apply bN | apply bD | apply bA)); exact BK161.out⟩, ⟨by (with_reducible repeat (first | apply bN | apply bD | apply bA)); exact BK162.out⟩, ⟨by repeat (first | (with_reducible first | exact HB.out | apply lA | apply lN | apply lD | refine lS ?_ ‹_›) | exact HB.out)⟩⟩
     ·
      rw [if_neg c32] at H
      have c32b0 : (a0 == 128) = false := beq_eq_false_iff_ne.mpr c32; have c32b1 : (a0 != 128) = true := bne_iff_ne.mpr c32
      (first | rw [c32b0] | (simp only [i64_w, i32_w]; rw [c32b0]) | skip)
      have H' := Aside0.mk H
      clear H
      go_wp2
      go_meet
      case rel => exact ⟨_, ((a0 == 176)), (by first | rfl | (simp; done) | (simp [*]; done)), H', ⟨by have := HJ8.out; first | omega | exact Nat.le_refl _⟩, ⟨by (with_reducible repeat (first | apply bN | apply bD | apply bA)); exact BK160.out⟩, ⟨by (with_reducible repeat (first | apply bN | apply bD | apply bA)); exact BK161.out⟩, ⟨by (with_reducible repeat (first | apply bN | apply bD | apply bA)); exact BK162.out⟩, ⟨by repeat (first | (with_reducible first | exact HB.out | apply lA | apply lN | apply lD | refine lS ?_ ‹_›) | exact HB.out)⟩⟩
    case rest =>
     clear HC31
     try clear c1
     try clear c2
     try clear p2
     try clear c3
     try clear c4
     try clear c6
     try clear c6b0
     try clear c6b1
     try clear c14
     try clear c20
     try clear c32
     try clear c32b0
     try clear c32b1
     try clear p2
     obtain ⟨kq, x12_30, rfl, HA, HJ30, BK160, BK161, BK162, HB⟩ := hcut
     cases kq with
     | zero => exact absurd HA.out (by simp [tnum_Do.j1])
     | succ kj30 =>
      have H := HA.out
      clear HA
      simp only [tnum_Do.j1] at H
      have HC33 := Aside0.mk H
      clear H
      go_upto_if 43 with (fail)
      go_cut [] (fun wc => ∃ (kq : Nat) (x162000_32 : Int) (x162001_32 : Int), Aside0 (tnum_Do.j2 kq a0 a1 x12_30 x161000_8 x161001_8 x162000_32 x162001_32 = some (r1, r2, r3)) ∧ Aside0 (kq ≤ kj30) ∧ Aside0 (wc.heap[gb160]? = some (.cells #[.int .u64 x161000_8, .int .u64 x161001_8] 24 (0, 0))) ∧ Aside0 (wc.heap[gb161]? = some (.cells #[.int .u64 x162000_32, .int .u64 x162001_32] 24 (0, 0))) ∧ Aside0 (wc.heap[gb162]? = some (.cells #[.int .u64 0, .int .u64 0] 24 (0, 0))) ∧ Aside0 (Below w.heap.size w wc))
      case first =>
       have H := HC33.out
       clear HC33
       by_cases c34 : a0 = 128
       ·
        rw [if_pos c34] at H
        have c34b0 : (a0 == 128) = true := beq_iff_eq.mpr c34; have c34b1 : (a0 != 128) = false := bne_eq_false_iff_eq.mpr c34; clear c34
        (first | rw [c34b0] | (simp only [i64_w, i32_w]; rw [c34b0]) | skip)
        have H' := Aside0.mk H
        clear H; have hnb35 := NB160_161.out; have hnc35 := NB161_160.out; have hnb36 := NB160_162.out; have hnc36 := NB162_160.out; have hcz37_0 : wc.cell? ⟨gb160, 0, none⟩ = some (.int .u64 x161000_8) := (blk_cell BK160.out 0).trans rfl; have hcz37_1 : wc.cell? ⟨gb160, 1, none⟩ = some (.int .u64 x161001_8) := (blk_cell BK160.out 1).trans rfl; have hfz37_0 := blk_frozen BK160.out 0; have hfz37_1 := blk_frozen BK160.out 1; have hnb38 := NB161_162.out; have hnc38 := NB162_161.out; have hcz39_0 : wc.cell? ⟨gb161, 0, none⟩ = some (.int .u64 x162000_8) := (blk_cell BK161.out 0).trans rfl; have hcz39_1 : wc.cell? ⟨gb161, 1, none⟩ = some (.int .u64 x162001_8) := (blk_cell BK161.out 1).trans rfl; have hfz39_0 := blk_frozen BK161.out 0; have hfz39_1 := blk_frozen BK161.out 1
        go_wp2
        go_meet
        case rel => exact ⟨_, (x161000_8), (x161001_8), H', ⟨by have := HJ8.out; have := HJ30.out; first | omega | exact Nat.le_refl _⟩, ⟨by (with_reducible repeat (first | apply bN | apply bD | apply bA)); refine blk_far ?_ NB160_161.out _; (with_reducible repeat (first | apply bN | apply bD | apply bA)); refine blk_far ?_ NB160_161.out _; (with_reducible repeat (first | apply bN | apply bD | apply bA)); exact BK160.out⟩, ⟨by (with_reducible repeat (first | apply bN | apply bD | apply bA)); refine blk_put (cs := #[.int .u64 x161000_8, .int .u64 x162001_8]) ?_ 1 _ rfl; (with_reducible repeat (first | apply bN | apply bD | apply bA)); refine blk_put (cs := #[.int .u64 x162000_8, .int .u64 x162001_8]) ?_ 0 _ rfl; (with_reducible repeat (first | apply bN | apply bD | apply bA)); exact BK161.out⟩, ⟨by (with_reducible repeat (first | apply bN | apply bD | apply bA)); refine blk_far ?_ NB162_161.out _; (with_reducible repeat (first | apply bN | apply bD | apply bA)); refine blk_far ?_ NB162_161.out _; (with_reducible repeat (first | apply bN | apply bD | apply bA)); exact BK162.out⟩, ⟨by repeat (first | (with_reducible first | exact HB.out | apply lA | apply lN | apply lD | refine lS ?_ ‹_›) | exact HB.out)⟩⟩
       ·
        rw [if_neg c34] at H
        have c34b0 : (a0 == 128) = false := beq_eq_false_iff_ne.mpr c34; have c34b1 : (a0 != 128) = true := bne_iff_ne.mpr c34
        (first | rw [c34b0] | (simp only [i64_w, i32_w]; rw [c34b0]) | skip)
        have H' := Aside0.mk H
        clear H
        go_wp2
        go_meet
        case rel => exact ⟨_, (x162000_8), (x162001_8), H', ⟨by have := HJ8.out; have := HJ30.out; first | omega | exact Nat.le_refl _⟩, ⟨by (with_reducible repeat (first | apply bN | apply bD | apply bA)); exact BK160.out⟩, ⟨by (with_reducible repeat (first | apply bN | apply bD | apply bA)); exact BK161.out⟩, ⟨by (with_reducible repeat (first | apply bN | apply bD | apply bA)); exact BK162.out⟩, ⟨by repeat (first | (with_reducible first | exact HB.out | apply lA | apply lN | apply lD | refine lS ?_ ‹_›) | exact HB.out)⟩⟩
      case rest =>
       clear HC33
       try clear c1
       try clear c2
       try clear p2
       try clear c3
       try clear c4
       try clear c6
       try clear c6b0
       try clear c6b1
       try clear c14
       try clear c20
       try clear c32
       try clear c32b0
       try clear c32b1
       try clear c34
       try clear c34b0
       try clear c34b1
       try clear c35
       try clear c36
       try clear c38
       try clear hcz37_0
       try clear hcz37_1
       try clear hcz39_0
       try clear hcz39_1
       try clear hfz37_0
       try clear hfz37_1
       try clear hfz39_0
       try clear hfz39_1
       try clear p2
       obtain ⟨kq, x162000_32, x162001_32, HA, HJ32, BK160, BK161, BK162, HB⟩ := hcut
       cases kq with
       | zero => exact absurd HA.out (by simp [tnum_Do.j2])
       | succ kj32 =>
        have H := HA.out
        clear HA
        simp only [tnum_Do.j2] at H
        have HC40 := Aside0.mk H
        clear H
        go_upto_region 10 with (fail)
        go_cut [55] (fun v55 wc => ∃ (kq : Nat) (x55_39 : Bool), v55 = .bool x55_39 ∧ Aside0 (tnum_Do.j3 kq a0 a1 x55_39 x161000_8 x161001_8 x162000_32 x162001_32 = some (r1, r2, r3)) ∧ Aside0 (kq ≤ kj32) ∧ Aside0 (wc.heap[gb160]? = some (.cells #[.int .u64 x161000_8, .int .u64 x161001_8] 24 (0, 0))) ∧ Aside0 (wc.heap[gb161]? = some (.cells #[.int .u64 x162000_32, .int .u64 x162001_32] 24 (0, 0))) ∧ Aside0 (wc.heap[gb162]? = some (.cells #[.int .u64 0, .int .u64 0] 24 (0, 0))) ∧ Aside0 (Below w.heap.size w wc))
        case first =>
         have H := HC40.out
         clear HC40
         by_cases c41 : x162001_32 = 0
         ·
          rw [if_pos c41] at H
          have c41b0 : (x162001_32 == 0) = true := beq_iff_eq.mpr c41; have c41b1 : (x162001_32 != 0) = false := bne_eq_false_iff_eq.mpr c41; clear c41
          (first | rw [c41b0] | (simp only [i64_w, i32_w]; rw [c41b0]) | skip)
          by_cases c42 : x161001_8 = 0
          ·
           rw [if_pos c42] at H
           have c42b0 : (x161001_8 == 0) = true := beq_iff_eq.mpr c42; have c42b1 : (x161001_8 != 0) = false := bne_eq_false_iff_eq.mpr c42; clear c42
           have H' := Aside0.mk H
           clear H; have hnb43 := NB161_160.out; have hnc43 := NB160_161.out; have hnb44 := NB161_162.out; have hnc44 := NB162_161.out; have hcz45_0 : wc.cell? ⟨gb161, 0, none⟩ = some (.int .u64 x162000_32) := (blk_cell BK161.out 0).trans rfl; have hcz45_1 : wc.cell? ⟨gb161, 1, none⟩ = some (.int .u64 x162001_32) := (blk_cell BK161.out 1).trans rfl; have hfz45_0 := blk_frozen BK161.out 0; have hfz45_1 := blk_frozen BK161.out 1; have hnb46 := NB160_162.out; have hnc46 := NB162_160.out; have hcz47_0 : wc.cell? ⟨gb160, 0, none⟩ = some (.int .u64 x161000_8) := (blk_cell BK160.out 0).trans rfl; have hcz47_1 : wc.cell? ⟨gb160, 1, none⟩ = some (.int .u64 x161001_8) := (blk_cell BK160.out 1).trans rfl; have hfz47_0 := blk_frozen BK160.out 0; have hfz47_1 := blk_frozen BK160.out 1
           go_wp2
           go_meet
           case rel => exact ⟨_, (true), (by first | rfl | (simp; done) | (simp [*]; done)), H', ⟨by have := HJ8.out; have := HJ30.out; have := HJ32.out; first | omega | exact Nat.le_refl _⟩, ⟨by (with_reducible repeat (first | apply bN | apply bD | apply bA)); exact BK160.out⟩, ⟨by (with_reducible repeat (first | apply bN | apply bD | apply bA)); exact BK161.out⟩, ⟨by (with_reducible repeat (first | apply bN | apply bD | apply bA)); exact BK162.out⟩, ⟨by repeat (first | (with_reducible first | exact HB.out | apply lA | apply lN | apply lD | refine lS ?_ ‹_›) | exact HB.out)⟩⟩
          ·
           rw [if_neg c42] at H
           have c42b0 : (x161001_8 == 0) = false := beq_eq_false_iff_ne.mpr c42; have c42b1 : (x161001_8 != 0) = true := bne_iff_ne.mpr c42
           have H' := Aside0.mk H
           clear H; have hnb48 := NB161_160.out; have hnc48 := NB160_161.out; have hnb49 := NB161_162.out; have hnc49 := NB162_161.out; have hcz50_0 : wc.cell? ⟨gb161, 0, none⟩ = some (.int .u64 x162000_32) := (blk_cell BK161.out 0).trans rfl; have hcz50_1 : wc.cell? ⟨gb161, 1, none⟩ = some (.int .u64 x162001_32) := (blk_cell BK161.out 1).trans rfl; have hfz50_0 := blk_frozen BK161.out 0; have hfz50_1 := blk_frozen BK161.out 1; have hnb51 := NB160_162.out; have hnc51 := NB162_160.out; have hcz52_0 : wc.cell? ⟨gb160, 0, none⟩ = some (.int .u64 x161000_8) := (blk_cell BK160.out 0).trans rfl; have hcz52_1 : wc.cell? ⟨gb160, 1, none⟩ = some (.int .u64 x161001_8) := (blk_cell BK160.out 1).trans rfl; have hfz52_0 := blk_frozen BK160.out 0; have hfz52_1 := blk_frozen BK160.out 1
           go_wp2
           go_meet
           case rel => exact ⟨_, (x12_30), (by first | rfl | (simp; done) | (simp [*]; done)), H', ⟨by have := HJ8.out; have := HJ30.out; have := HJ32.out; first | omega | exact Nat.le_refl _⟩, ⟨by (with_reducible repeat (first | apply bN | apply bD | apply bA)); exact BK160.out⟩, ⟨by (with_reducible repeat (first | apply bN | apply bD | apply bA)); exact BK161.out⟩, ⟨by (with_reducible repeat (first | apply bN | apply bD | apply bA)); exact BK162.out⟩, ⟨by repeat (first | (with_reducible first | exact HB.out | apply lA | apply lN | apply lD | refine lS ?_ ‹_›) | exact HB.out)⟩⟩
         ·
          rw [if_neg c41] at H
          have c41b0 : (x162001_32 == 0) = false := beq_eq_false_iff_ne.mpr c41; have c41b1 : (x162001_32 != 0) = true := bne_iff_ne.mpr c41
          (first | rw [c41b0] | (simp only [i64_w, i32_w]; rw [c41b0]) | skip)
          have H' := Aside0.mk H
          clear H; have hnb53 := NB161_160.out; have hnc53 := NB160_161.out; have hnb54 := NB161_162.out; have hnc54 := NB162_161.out; have hcz55_0 : wc.cell? ⟨gb161, 0, none⟩ = some (.int .u64 x162000_32) := (blk_cell BK161.out 0).trans rfl; have hcz55_1 : wc.cell? ⟨gb161, 1, none⟩ = some (.int .u64 x162001_32) := (blk_cell BK161.out 1).trans rfl; have hfz55_0 := blk_frozen BK161.out 0; have hfz55_1 := blk_frozen BK161.out 1
          go_wp2
          go_meet
          case rel => exact ⟨_, (false), (by first | rfl | (simp; done) | (simp [*]; done)), H', ⟨by have := HJ8.out; have := HJ30.out; have := HJ32.out; first | omega | exact Nat.le_refl _⟩, ⟨by (with_reducible repeat (first | apply bN | apply bD | apply bA)); exact BK160.out⟩, ⟨by (with_reducible repeat (first | apply bN | apply bD | apply bA)); exact BK161.out⟩, ⟨by (with_reducible repeat (first | apply bN | apply bD | apply bA)); exact BK162.out⟩, ⟨by repeat (first | (with_reducible first | exact HB.out | apply lA | apply lN | apply lD | refine lS ?_ ‹_›) | exact HB.out)⟩⟩
        case rest =>
         clear HC40
         try clear c1
         try clear c2
         try clear p2
         try clear c3
         try clear c4
         try clear c5
         try clear c6
         try clear c6b0
         try clear c6b1
         try clear c14
         try clear c20
         try clear c32
         try clear c32b0
         try clear c32b1
         try clear c34
         try clear c34b0
         try clear c34b1
         try clear c35
         try clear c36
         try clear c38
         try clear c41
         try clear c41b0
         try clear c41b1
         try clear c42
         try clear c42b0
         try clear c42b1
         try clear c43
         try clear c44
         try clear c46
         try clear c48
         try clear c49
         try clear c51
         try clear c53
         try clear c54
         try clear hcz37_0
         try clear hcz37_1
         try clear hcz39_0
         try clear hcz39_1
         try clear hcz45_0
         try clear hcz45_1
         try clear hcz47_0
         try clear hcz47_1
         try clear hcz50_0
         try clear hcz50_1
         try clear hcz52_0
         try clear hcz52_1
         try clear hcz55_0
         try clear hcz55_1
         try clear hfz37_0
         try clear hfz37_1
         try clear hfz39_0
         try clear hfz39_1
         try clear hfz45_0
         try clear hfz45_1
         try clear hfz47_0
         try clear hfz47_1
         try clear hfz50_0
         try clear hfz50_1
         try clear hfz52_0
         try clear hfz52_1
         try clear hfz55_0
         try clear hfz55_1
         try clear p2
         obtain ⟨kq, x55_39, rfl, HA, HJ39, BK160, BK161, BK162, HB⟩ := hcut
         cases kq with
         | zero => exact absurd HA.out (by simp [tnum_Do.j3])
         | succ kj39 =>
          have H := HA.out
          clear HA
          simp only [tnum_Do.j3] at H
          by_cases c56 : x55_39 = true
          ·
           subst c56
           have H1 : ((alu_Do.f a0 a1 x161000_8 x162000_32).bind fun bt173 => ((tnum_Const.f bt173.1).bind fun bt175 => (some (bt175.1, bt175.2, bt173.2)))) = some (r1, r2, r3) := by rw [if_pos rfl] at H; exact H
           clear H; have H := H1; clear H1; replace H := Option.bind_eq_some_iff.mp H; obtain ⟨⟨t173, t174⟩, A570, H⟩ := H
           replace H : ((tnum_Const.f t173).bind fun bt175 => (some (bt175.1, bt175.2, t174))) = some (r1, r2, r3) := H
           have A57 := Aside0.mk A570; clear A570; replace H := Option.bind_eq_some_iff.mp H; obtain ⟨⟨t175, t176⟩, A580, H⟩ := H
           replace H : (some (t175, t176, t174)) = some (r1, r2, r3) := H
           have A58 := Aside0.mk A580; clear A580; simp only [Option.some.injEq, Prod.mk.injEq] at H; obtain ⟨rfl, rfl, rfl⟩ := H; have hnb59 := NB160_161.out; have hnc59 := NB161_160.out; have hnb60 := NB160_162.out; have hnc60 := NB162_160.out; have hcz61_0 : wc.cell? ⟨gb160, 0, none⟩ = some (.int .u64 x161000_8) := (blk_cell BK160.out 0).trans rfl; have hcz61_1 : wc.cell? ⟨gb160, 1, none⟩ = some (.int .u64 x161001_8) := (blk_cell BK160.out 1).trans rfl; have hfz61_0 := blk_frozen BK160.out 0; have hfz61_1 := blk_frozen BK160.out 1; have hnb62 := NB161_162.out; have hnc62 := NB162_161.out; have hcz63_0 : wc.cell? ⟨gb161, 0, none⟩ = some (.int .u64 x162000_32) := (blk_cell BK161.out 0).trans rfl; have hcz63_1 : wc.cell? ⟨gb161, 1, none⟩ = some (.int .u64 x162001_32) := (blk_cell BK161.out 1).trans rfl; have hfz63_0 := blk_frozen BK161.out 0; have hfz63_1 := blk_frozen BK161.out 1
           go_wp2_with (first | ((with_reducible refine gate_callee (f := 42) rfl ?_); refine goesL_ (some 63) rfl rfl Try.func42 (by kernel_rfl) rfl #[.int .i64 a0, .bool a1, .int .u64 x161000_8, .int .u64 x162000_32] rfl (by (try simp only [List.map_toArray, List.map_cons, List.map_nil]); first | done | rfl | (simp only [List.length_drop, List.length_take]; rfl)) ?_; (with_reducible refine (alu_Do.calls a0 a1 x161000_8 x162000_32 t173 t174 _ A57.out).mono ?_); rintro e w' ⟨rfl, ⟨nd, rfl⟩⟩; refine ⟨_, rfl, ?_⟩; (try (rw [drewN_self wc]; generalize hq_ : World.drewN wc _ = wc; have n0_ : Aside0 (wc.heap[gb160]? = some (.cells #[.int .u64 x161000_8, .int .u64 x161001_8] 24 (0, 0))) := ⟨by rw [← hq_]; exact (by (with_reducible repeat (first | apply bN | apply bD | apply bA)); exact BK160.out)⟩; have n1_ : Aside0 (wc.heap[gb161]? = some (.cells #[.int .u64 x162000_32, .int .u64 x162001_32] 24 (0, 0))) := ⟨by rw [← hq_]; exact (by (with_reducible repeat (first | apply bN | apply bD | apply bA)); exact BK161.out)⟩; have n2_ : Aside0 (wc.heap[gb162]? = some (.cells #[.int .u64 0, .int .u64 0] 24 (0, 0))) := ⟨by rw [← hq_]; exact (by (with_reducible repeat (first | apply bN | apply bD | apply bA)); exact BK162.out)⟩; have n3_ : Aside0 (Below w.heap.size w wc) := ⟨by rw [← hq_]; exact (by repeat (first | (with_reducible first | exact HB.out | apply lA | apply lN | apply lD | refine lS ?_ ‹_›) | exact HB.out))⟩; clear BK160 BK161 BK162 HB hq_; have BK160 := n0_; have BK161 := n1_; have BK162 := n2_; have HB := n3_; clear n0_ n1_ n2_ n3_)); have hcz61_0 : wc.cell? ⟨gb160, 0, none⟩ = some (.int .u64 x161000_8) := (blk_cell BK160.out 0).trans rfl; have hcz61_1 : wc.cell? ⟨gb160, 1, none⟩ = some (.int .u64 x161001_8) := (blk_cell BK160.out 1).trans rfl; have hfz61_0 := blk_frozen BK160.out 0; have hfz61_1 := blk_frozen BK160.out 1; have hcz63_0 : wc.cell? ⟨gb161, 0, none⟩ = some (.int .u64 x162000_32) := (blk_cell BK161.out 0).trans rfl; have hcz63_1 : wc.cell? ⟨gb161, 1, none⟩ = some (.int .u64 x162001_32) := (blk_cell BK161.out 1).trans rfl; have hfz63_0 := blk_frozen BK161.out 0; have hfz63_1 := blk_frozen BK161.out 1) | ((with_reducible refine gate_callee (f := 25) rfl ?_); refine goesL_ (some 67) rfl rfl Try.func25 (by kernel_rfl) rfl #[.int .u64 t173] rfl (by (try simp only [List.map_toArray, List.map_cons, List.map_nil]); first | done | rfl | (simp only [List.length_drop, List.length_take]; rfl)) ?_; (with_reducible refine (tnum_Const.calls t173 t175 t176 _ A58.out).mono ?_); rintro e w64 ⟨rfl, hb⟩; refine ⟨_, rfl, ?_⟩; have n0_ := Aside0.mk (blk_below (g := gb160) (o := .cells #[.int .u64 x161000_8, .int .u64 x161001_8] 24 (0, 0)) (by (with_reducible repeat (first | apply bN | apply bD | apply bA)); exact BK160.out) hb); have n1_ := Aside0.mk (blk_below (g := gb161) (o := .cells #[.int .u64 x162000_32, .int .u64 x162001_32] 24 (0, 0)) (by (with_reducible repeat (first | apply bN | apply bD | apply bA)); exact BK161.out) hb); have n2_ := Aside0.mk (blk_below (g := gb162) (o := .cells #[.int .u64 0, .int .u64 0] 24 (0, 0)) (by (with_reducible repeat (first | apply bN | apply bD | apply bA)); exact BK162.out) hb); have n3_ := Aside0.mk (below_step (by repeat (first | (with_reducible first | exact HB.out | apply lA | apply lN | apply lD | refine lS ?_ ‹_›) | exact HB.out)) hb); clear BK160; clear BK161; clear BK162; clear HB; have BK160 := n0_; have BK161 := n1_; have BK162 := n2_; have HB := n3_; clear n0_ n1_ n2_ n3_; (try clear hb); (try clear hb2); (try clear hk); (try clear hi); have hcz65_0 : w64.cell? ⟨gb162, 0, none⟩ = some (.int .u64 0) := (blk_cell BK162.out 0).trans rfl; have hcz65_1 : w64.cell? ⟨gb162, 1, none⟩ = some (.int .u64 0) := (blk_cell BK162.out 1).trans rfl; have hfz65_0 := blk_frozen BK162.out 0; have hfz65_1 := blk_frozen BK162.out 1))
           refine bodyPost_ret (results_ct rfl _ _ gb162 24 #[.int .u64 t175, .int .u64 t176] (0, 0) _ rfl (by (with_reducible repeat (first | apply bN | apply bD | apply bA)); refine blk_put (cs := #[.int .u64 t175, .int .u64 0]) ?_ 1 _ rfl; (with_reducible repeat (first | apply bN | apply bD | apply bA)); refine blk_put (cs := #[.int .u64 0, .int .u64 0]) ?_ 0 _ rfl; (with_reducible repeat (first | apply bN | apply bD | apply bA)); exact BK162.out) Try.underlying24 rfl (by kernel_rfl)) rfl ?_
           exact ⟨by first | rfl | (simp [errW_none, errW_some] <;> rfl) | (simp [*, errW_none, errW_some] <;> rfl), by repeat (first | (with_reducible first | exact HB.out | apply lA | apply lN | apply lD | refine lS ?_ ‹_›) | exact HB.out)⟩
          ·
           replace c56 := Bool.eq_false_iff.mpr c56
           subst c56
           have H1 : ((tnum_do.f kj39 a0 a1 x161000_8 x161001_8 x162000_32 x162001_32).bind fun bt177 => (if a1 = true then (some (bt177.1, bt177.2, 0)) else ((tnum_cut.f bt177.1 bt177.2).bind fun bt180 => (some (bt180.1, bt180.2, 0))))) = some (r1, r2, r3) := by rw [if_neg (show ¬ (false = true) by decide)] at H; exact H
           clear H; have H := H1; clear H1; replace H := Option.bind_eq_some_iff.mp H; obtain ⟨⟨t177, t178⟩, A660, H⟩ := H
           replace H : (if a1 = true then (some (t177, t178, 0)) else ((tnum_cut.f t177 t178).bind fun bt180 => (some (bt180.1, bt180.2, 0)))) = some (r1, r2, r3) := H
           have A66 := Aside0.mk A660; clear A660
           by_cases c67 : a1 = true
           ·
            subst c67
            have H1 : (some (t177, t178, 0)) = some (r1, r2, r3) := by rw [if_pos rfl] at H; exact H
            clear H; have H := H1; clear H1; simp only [Option.some.injEq, Prod.mk.injEq] at H; obtain ⟨rfl, rfl, rfl⟩ := H; have hnb68 := NB160_161.out; have hnc68 := NB161_160.out; have hnb69 := NB160_162.out; have hnc69 := NB162_160.out; have hcz70_0 : wc.cell? ⟨gb160, 0, none⟩ = some (.int .u64 x161000_8) := (blk_cell BK160.out 0).trans rfl; have hcz70_1 : wc.cell? ⟨gb160, 1, none⟩ = some (.int .u64 x161001_8) := (blk_cell BK160.out 1).trans rfl; have hfz70_0 := blk_frozen BK160.out 0; have hfz70_1 := blk_frozen BK160.out 1; have hnb71 := NB161_162.out; have hnc71 := NB162_161.out; have hcz72_0 : wc.cell? ⟨gb161, 0, none⟩ = some (.int .u64 x162000_32) := (blk_cell BK161.out 0).trans rfl; have hcz72_1 : wc.cell? ⟨gb161, 1, none⟩ = some (.int .u64 x162001_32) := (blk_cell BK161.out 1).trans rfl; have hfz72_0 := blk_frozen BK161.out 0; have hfz72_1 := blk_frozen BK161.out 1
            go_wp2_with (first | ((with_reducible refine gate_callee (f := 45) rfl ?_); refine goesL_ (some 73) rfl rfl Try.func45 (by kernel_rfl) rfl #[.int .i64 a0, .bool true, .agg #[.int .u64 x161000_8, .int .u64 x161001_8], .agg #[.int .u64 x162000_32, .int .u64 x162001_32]] rfl (by (try simp only [List.map_toArray, List.map_cons, List.map_nil]); first | done | rfl | (simp only [List.length_drop, List.length_take]; rfl)) ?_; (with_reducible refine (tnum_do.calls kj39 a0 true x161000_8 x161001_8 x162000_32 x162001_32 t177 t178 _ A66.out).mono ?_); rintro e w73 ⟨rfl, hb⟩; refine ⟨_, rfl, ?_⟩; have n0_ := Aside0.mk (blk_below (g := gb160) (o := .cells #[.int .u64 x161000_8, .int .u64 x161001_8] 24 (0, 0)) (by (with_reducible repeat (first | apply bN | apply bD | apply bA)); exact BK160.out) hb); have n1_ := Aside0.mk (blk_below (g := gb161) (o := .cells #[.int .u64 x162000_32, .int .u64 x162001_32] 24 (0, 0)) (by (with_reducible repeat (first | apply bN | apply bD | apply bA)); exact BK161.out) hb); have n2_ := Aside0.mk (blk_below (g := gb162) (o := .cells #[.int .u64 0, .int .u64 0] 24 (0, 0)) (by (with_reducible repeat (first | apply bN | apply bD | apply bA)); exact BK162.out) hb); have n3_ := Aside0.mk (below_step (by repeat (first | (with_reducible first | exact HB.out | apply lA | apply lN | apply lD | refine lS ?_ ‹_›) | exact HB.out)) hb); clear BK160; clear BK161; clear BK162; clear HB; have BK160 := n0_; have BK161 := n1_; have BK162 := n2_; have HB := n3_; clear n0_ n1_ n2_ n3_; (try clear hb); (try clear hb2); (try clear hk); (try clear hi)) | ((with_reducible refine gate_dst (N := 15) rfl ?_); refine box_event ?hg (N := 15) ?hd (cs := #[.int .u64 0, .int .u64 0]) (t := 24) ?hr ?_; (case hd => rfl); (case hg => rfl); (case hr => first | (go_simp; done) | (go_simp; rfl)); intro gb179 hg w74 hbox hb; have n0_ := Aside0.mk (blk_below (g := gb160) (o := .cells #[.int .u64 x161000_8, .int .u64 x161001_8] 24 (0, 0)) (by (with_reducible repeat (first | apply bN | apply bD | apply bA)); exact BK160.out) hb); have n1_ := Aside0.mk (blk_below (g := gb161) (o := .cells #[.int .u64 x162000_32, .int .u64 x162001_32] 24 (0, 0)) (by (with_reducible repeat (first | apply bN | apply bD | apply bA)); exact BK161.out) hb); have n2_ := Aside0.mk (blk_below (g := gb162) (o := .cells #[.int .u64 0, .int .u64 0] 24 (0, 0)) (by (with_reducible repeat (first | apply bN | apply bD | apply bA)); exact BK162.out) hb); have n3_ := Aside0.mk (below_step (by repeat (first | (with_reducible first | exact HB.out | apply lA | apply lN | apply lD | refine lS ?_ ‹_›) | exact HB.out)) hb); have n4_ := Aside0.mk (hbox); have n5_ := Aside0.mk ((by rw [hg]; exact (below_size (by repeat (first | (with_reducible first | exact HB.out | apply lA | apply lN | apply lD | refine lS ?_ ‹_›) | exact HB.out))) : w.heap.size ≤ gb179)); have n6_ := n5_; have n7_ := Aside0.mk ((by rw [hg]; exact Nat.ne_of_lt (blk_lt (g := gb160) (o := .cells #[.int .u64 x161000_8, .int .u64 x161001_8] 24 (0, 0)) (by (with_reducible repeat (first | apply bN | apply bD | apply bA)); exact BK160.out)) : gb160 ≠ gb179)); have n8_ := sy n7_; have n9_ := Aside0.mk ((by rw [hg]; exact Nat.ne_of_lt (blk_lt (g := gb161) (o := .cells #[.int .u64 x162000_32, .int .u64 x162001_32] 24 (0, 0)) (by (with_reducible repeat (first | apply bN | apply bD | apply bA)); exact BK161.out)) : gb161 ≠ gb179)); have n10_ := sy n9_; have n11_ := Aside0.mk ((by rw [hg]; exact Nat.ne_of_lt (blk_lt (g := gb162) (o := .cells #[.int .u64 0, .int .u64 0] 24 (0, 0)) (by (with_reducible repeat (first | apply bN | apply bD | apply bA)); exact BK162.out)) : gb162 ≠ gb179)); have n12_ := sy n11_; clear BK160; clear BK161; clear BK162; clear HB; have BK160 := n0_; have BK161 := n1_; have BK162 := n2_; have HB := n3_; have BK179 := n4_; have GW179 := n5_; have GE179 := n6_; have NB160_179 := n7_; have NB179_160 := n8_; have NB161_179 := n9_; have NB179_161 := n10_; have NB162_179 := n11_; have NB179_162 := n12_; clear n0_ n1_ n2_ n3_ n4_ n5_ n6_ n7_ n8_ n9_ n10_ n11_ n12_; clear hb hbox hg; have hnb75 := NB179_160.out; have hnc75 := NB160_179.out; have hnb76 := NB179_161.out; have hnc76 := NB161_179.out; have hnb77 := NB179_162.out; have hnc77 := NB162_179.out; have hcz78_0 : w74.cell? ⟨gb179, 0, none⟩ = some (.int .u64 0) := (blk_cell BK179.out 0).trans rfl; have hcz78_1 : w74.cell? ⟨gb179, 1, none⟩ = some (.int .u64 0) := (blk_cell BK179.out 1).trans rfl; have hfz78_0 := blk_frozen BK179.out 0; have hfz78_1 := blk_frozen BK179.out 1; have hcz79_0 : w74.cell? ⟨gb162, 0, none⟩ = some (.int .u64 0) := (blk_cell BK162.out 0).trans rfl; have hcz79_1 : w74.cell? ⟨gb162, 1, none⟩ = some (.int .u64 0) := (blk_cell BK162.out 1).trans rfl; have hfz79_0 := blk_frozen BK162.out 0; have hfz79_1 := blk_frozen BK162.out 1))
            refine bodyPost_ret (results_ct rfl _ _ gb162 24 #[.int .u64 t177, .int .u64 t178] (0, 0) _ rfl (by (with_reducible repeat (first | apply bN | apply bD | apply bA)); refine blk_put (cs := #[.int .u64 t177, .int .u64 0]) ?_ 1 _ rfl; (with_reducible repeat (first | apply bN | apply bD | apply bA)); refine blk_put (cs := #[.int .u64 0, .int .u64 0]) ?_ 0 _ rfl; (with_reducible repeat (first | apply bN | apply bD | apply bA)); refine blk_far ?_ NB162_179.out _; (with_reducible repeat (first | apply bN | apply bD | apply bA)); refine blk_far ?_ NB162_179.out _; (with_reducible repeat (first | apply bN | apply bD | apply bA)); exact BK162.out) Try.underlying24 rfl (by kernel_rfl)) rfl ?_
            exact ⟨by first | rfl | (simp [errW_none, errW_some] <;> rfl) | (simp [*, errW_none, errW_some] <;> rfl), by repeat (first | (with_reducible first | exact HB.out | apply lA | apply lN | apply lD | refine lS ?_ ‹_›) | exact HB.out)⟩
           ·
            replace c67 := Bool.eq_false_iff.mpr c67
            subst c67
            have H1 : ((tnum_cut.f t177 t178).bind fun bt180 => (some (bt180.1, bt180.2, 0))) = some (r1, r2, r3) := by rw [if_neg (show ¬ (false = true) by decide)] at H; exact H
            clear H; have H := H1; clear H1; replace H := Option.bind_eq_some_iff.mp H; obtain ⟨⟨t180, t181⟩, A800, H⟩ := H
            replace H : (some (t180, t181, 0)) = some (r1, r2, r3) := H
            have A80 := Aside0.mk A800; clear A800; simp only [Option.some.injEq, Prod.mk.injEq] at H; obtain ⟨rfl, rfl, rfl⟩ := H; have hnb81 := NB160_161.out; have hnc81 := NB161_160.out; have hnb82 := NB160_162.out; have hnc82 := NB162_160.out; have hcz83_0 : wc.cell? ⟨gb160, 0, none⟩ = some (.int .u64 x161000_8) := (blk_cell BK160.out 0).trans rfl; have hcz83_1 : wc.cell? ⟨gb160, 1, none⟩ = some (.int .u64 x161001_8) := (blk_cell BK160.out 1).trans rfl; have hfz83_0 := blk_frozen BK160.out 0; have hfz83_1 := blk_frozen BK160.out 1; have hnb84 := NB161_162.out; have hnc84 := NB162_161.out; have hcz85_0 : wc.cell? ⟨gb161, 0, none⟩ = some (.int .u64 x162000_32) := (blk_cell BK161.out 0).trans rfl; have hcz85_1 : wc.cell? ⟨gb161, 1, none⟩ = some (.int .u64 x162001_32) := (blk_cell BK161.out 1).trans rfl; have hfz85_0 := blk_frozen BK161.out 0; have hfz85_1 := blk_frozen BK161.out 1
            go_wp2_with (first | ((with_reducible refine gate_callee (f := 45) rfl ?_); refine goesL_ (some 73) rfl rfl Try.func45 (by kernel_rfl) rfl #[.int .i64 a0, .bool false, .agg #[.int .u64 x161000_8, .int .u64 x161001_8], .agg #[.int .u64 x162000_32, .int .u64 x162001_32]] rfl (by (try simp only [List.map_toArray, List.map_cons, List.map_nil]); first | done | rfl | (simp only [List.length_drop, List.length_take]; rfl)) ?_; (with_reducible refine (tnum_do.calls kj39 a0 false x161000_8 x161001_8 x162000_32 x162001_32 t177 t178 _ A66.out).mono ?_); rintro e w86 ⟨rfl, hb⟩; refine ⟨_, rfl, ?_⟩; have n0_ := Aside0.mk (blk_below (g := gb160) (o := .cells #[.int .u64 x161000_8, .int .u64 x161001_8] 24 (0, 0)) (by (with_reducible repeat (first | apply bN | apply bD | apply bA)); exact BK160.out) hb); have n1_ := Aside0.mk (blk_below (g := gb161) (o := .cells #[.int .u64 x162000_32, .int .u64 x162001_32] 24 (0, 0)) (by (with_reducible repeat (first | apply bN | apply bD | apply bA)); exact BK161.out) hb); have n2_ := Aside0.mk (blk_below (g := gb162) (o := .cells #[.int .u64 0, .int .u64 0] 24 (0, 0)) (by (with_reducible repeat (first | apply bN | apply bD | apply bA)); exact BK162.out) hb); have n3_ := Aside0.mk (below_step (by repeat (first | (with_reducible first | exact HB.out | apply lA | apply lN | apply lD | refine lS ?_ ‹_›) | exact HB.out)) hb); clear BK160; clear BK161; clear BK162; clear HB; have BK160 := n0_; have BK161 := n1_; have BK162 := n2_; have HB := n3_; clear n0_ n1_ n2_ n3_; (try clear hb); (try clear hb2); (try clear hk); (try clear hi)) | ((with_reducible refine gate_dst (N := 15) rfl ?_); refine box_event ?hg (N := 15) ?hd (cs := #[.int .u64 0, .int .u64 0]) (t := 24) ?hr ?_; (case hd => rfl); (case hg => rfl); (case hr => first | (go_simp; done) | (go_simp; rfl)); intro gb179 hg w87 hbox hb; have n0_ := Aside0.mk (blk_below (g := gb160) (o := .cells #[.int .u64 x161000_8, .int .u64 x161001_8] 24 (0, 0)) (by (with_reducible repeat (first | apply bN | apply bD | apply bA)); exact BK160.out) hb); have n1_ := Aside0.mk (blk_below (g := gb161) (o := .cells #[.int .u64 x162000_32, .int .u64 x162001_32] 24 (0, 0)) (by (with_reducible repeat (first | apply bN | apply bD | apply bA)); exact BK161.out) hb); have n2_ := Aside0.mk (blk_below (g := gb162) (o := .cells #[.int .u64 0, .int .u64 0] 24 (0, 0)) (by (with_reducible repeat (first | apply bN | apply bD | apply bA)); exact BK162.out) hb); have n3_ := Aside0.mk (below_step (by repeat (first | (with_reducible first | exact HB.out | apply lA | apply lN | apply lD | refine lS ?_ ‹_›) | exact HB.out)) hb); have n4_ := Aside0.mk (hbox); have n5_ := Aside0.mk ((by rw [hg]; exact (below_size (by repeat (first | (with_reducible first | exact HB.out | apply lA | apply lN | apply lD | refine lS ?_ ‹_›) | exact HB.out))) : w.heap.size ≤ gb179)); have n6_ := n5_; have n7_ := Aside0.mk ((by rw [hg]; exact Nat.ne_of_lt (blk_lt (g := gb160) (o := .cells #[.int .u64 x161000_8, .int .u64 x161001_8] 24 (0, 0)) (by (with_reducible repeat (first | apply bN | apply bD | apply bA)); exact BK160.out)) : gb160 ≠ gb179)); have n8_ := sy n7_; have n9_ := Aside0.mk ((by rw [hg]; exact Nat.ne_of_lt (blk_lt (g := gb161) (o := .cells #[.int .u64 x162000_32, .int .u64 x162001_32] 24 (0, 0)) (by (with_reducible repeat (first | apply bN | apply bD | apply bA)); exact BK161.out)) : gb161 ≠ gb179)); have n10_ := sy n9_; have n11_ := Aside0.mk ((by rw [hg]; exact Nat.ne_of_lt (blk_lt (g := gb162) (o := .cells #[.int .u64 0, .int .u64 0] 24 (0, 0)) (by (with_reducible repeat (first | apply bN | apply bD | apply bA)); exact BK162.out)) : gb162 ≠ gb179)); have n12_ := sy n11_; clear BK160; clear BK161; clear BK162; clear HB; have BK160 := n0_; have BK161 := n1_; have BK162 := n2_; have HB := n3_; have BK179 := n4_; have GW179 := n5_; have GE179 := n6_; have NB160_179 := n7_; have NB179_160 := n8_; have NB161_179 := n9_; have NB179_161 := n10_; have NB162_179 := n11_; have NB179_162 := n12_; clear n0_ n1_ n2_ n3_ n4_ n5_ n6_ n7_ n8_ n9_ n10_ n11_ n12_; clear hb hbox hg; have hnb88 := NB179_160.out; have hnc88 := NB160_179.out; have hnb89 := NB179_161.out; have hnc89 := NB161_179.out; have hnb90 := NB179_162.out; have hnc90 := NB162_179.out; have hcz91_0 : w87.cell? ⟨gb179, 0, none⟩ = some (.int .u64 0) := (blk_cell BK179.out 0).trans rfl; have hcz91_1 : w87.cell? ⟨gb179, 1, none⟩ = some (.int .u64 0) := (blk_cell BK179.out 1).trans rfl; have hfz91_0 := blk_frozen BK179.out 0; have hfz91_1 := blk_frozen BK179.out 1) | ((with_reducible refine gate_callee (f := 44) rfl ?_); refine goesL_ (some 77) rfl rfl Try.func44 (by kernel_rfl) rfl #[.agg #[.int .u64 t177, .int .u64 t178]] rfl (by (try simp only [List.map_toArray, List.map_cons, List.map_nil]); first | done | rfl | (simp only [List.length_drop, List.length_take]; rfl)) ?_; (with_reducible refine (tnum_cut.calls t177 t178 t180 t181 _ A80.out).mono ?_); rintro e w92 ⟨rfl, hb⟩; refine ⟨_, rfl, ?_⟩; have n0_ := Aside0.mk (blk_below (g := gb160) (o := .cells #[.int .u64 x161000_8, .int .u64 x161001_8] 24 (0, 0)) (by (with_reducible repeat (first | apply bN | apply bD | apply bA)); refine blk_far ?_ NB160_179.out _; (with_reducible repeat (first | apply bN | apply bD | apply bA)); refine blk_far ?_ NB160_179.out _; (with_reducible repeat (first | apply bN | apply bD | apply bA)); exact BK160.out) hb); have n1_ := Aside0.mk (blk_below (g := gb161) (o := .cells #[.int .u64 x162000_32, .int .u64 x162001_32] 24 (0, 0)) (by (with_reducible repeat (first | apply bN | apply bD | apply bA)); refine blk_far ?_ NB161_179.out _; (with_reducible repeat (first | apply bN | apply bD | apply bA)); refine blk_far ?_ NB161_179.out _; (with_reducible repeat (first | apply bN | apply bD | apply bA)); exact BK161.out) hb); have n2_ := Aside0.mk (blk_below (g := gb162) (o := .cells #[.int .u64 0, .int .u64 0] 24 (0, 0)) (by (with_reducible repeat (first | apply bN | apply bD | apply bA)); refine blk_far ?_ NB162_179.out _; (with_reducible repeat (first | apply bN | apply bD | apply bA)); refine blk_far ?_ NB162_179.out _; (with_reducible repeat (first | apply bN | apply bD | apply bA)); exact BK162.out) hb); have n3_ := Aside0.mk (blk_below (g := gb179) (o := .cells #[.int .u64 t177, .int .u64 t178] 24 (0, 0)) (by (with_reducible repeat (first | apply bN | apply bD | apply bA)); refine blk_put (cs := #[.int .u64 t177, .int .u64 0]) ?_ 1 _ rfl; (with_reducible repeat (first | apply bN | apply bD | apply bA)); refine blk_put (cs := #[.int .u64 0, .int .u64 0]) ?_ 0 _ rfl; (with_reducible repeat (first | apply bN | apply bD | apply bA)); exact BK179.out) hb); have n4_ := Aside0.mk (below_step (by repeat (first | (with_reducible first | exact HB.out | apply lA | apply lN | apply lD | refine lS ?_ ‹_›) | exact HB.out)) hb); clear BK160; clear BK161; clear BK162; clear BK179; clear HB; have BK160 := n0_; have BK161 := n1_; have BK162 := n2_; have BK179 := n3_; have HB := n4_; clear n0_ n1_ n2_ n3_ n4_; (try clear hb); (try clear hb2); (try clear hk); (try clear hi); have hcz93_0 : w92.cell? ⟨gb179, 0, none⟩ = some (.int .u64 t177) := (blk_cell BK179.out 0).trans rfl; have hcz93_1 : w92.cell? ⟨gb179, 1, none⟩ = some (.int .u64 t178) := (blk_cell BK179.out 1).trans rfl; have hfz93_0 := blk_frozen BK179.out 0; have hfz93_1 := blk_frozen BK179.out 1; have hcz94_0 : w92.cell? ⟨gb162, 0, none⟩ = some (.int .u64 0) := (blk_cell BK162.out 0).trans rfl; have hcz94_1 : w92.cell? ⟨gb162, 1, none⟩ = some (.int .u64 0) := (blk_cell BK162.out 1).trans rfl; have hfz94_0 := blk_frozen BK162.out 0; have hfz94_1 := blk_frozen BK162.out 1))
            refine bodyPost_ret (results_ct rfl _ _ gb162 24 #[.int .u64 t180, .int .u64 t181] (0, 0) _ rfl (by (with_reducible repeat (first | apply bN | apply bD | apply bA)); refine blk_put (cs := #[.int .u64 t180, .int .u64 0]) ?_ 1 _ rfl; (with_reducible repeat (first | apply bN | apply bD | apply bA)); refine blk_put (cs := #[.int .u64 0, .int .u64 0]) ?_ 0 _ rfl; (with_reducible repeat (first | apply bN | apply bD | apply bA)); refine blk_far ?_ NB162_179.out _; (with_reducible repeat (first | apply bN | apply bD | apply bA)); refine blk_far ?_ NB162_179.out _; (with_reducible repeat (first | apply bN | apply bD | apply bA)); exact BK162.out) Try.underlying24 rfl (by kernel_rfl)) rfl ?_
            exact ⟨by first | rfl | (simp [errW_none, errW_some] <;> rfl) | (simp [*, errW_none, errW_some] <;> rfl), by repeat (first | (with_reducible first | exact HB.out | apply lA | apply lN | apply lD | refine lS ?_ ‹_›) | exact HB.out)⟩
 ·
  rw [if_neg c6] at H
  have c6b0 : (t164 == 0) = false := beq_eq_false_iff_ne.mpr c6; have c6b1 : (t164 != 0) = true := bne_iff_ne.mpr c6; simp only [Option.some.injEq, Prod.mk.injEq] at H; obtain ⟨rfl, rfl, rfl⟩ := H
  go_enter Try.func14, Try.ntmps14
  go_wp2_with (first | ((with_reducible refine gate_dst (N := 6) rfl ?_); refine box_event ?hg (N := 6) ?hd (cs := #[.int .u64 a2_0, .int .u64 a2_1]) (t := 24) ?hr ?_; (case hd => rfl); (case hg => rfl); (case hr => first | (go_simp; done) | (go_simp; rfl)); intro gb160 hg w95 hbox hb; have n0_ := Aside0.mk (below_step (by repeat (first | (with_reducible first | exact HB.out | apply lA | apply lN | apply lD) | exact HB.out)) hb); have n1_ := Aside0.mk (hbox); have n2_ := Aside0.mk ((by rw [hg]; exact (below_size (by repeat (first | (with_reducible first | exact HB.out | apply lA | apply lN | apply lD) | exact HB.out))) : w.heap.size ≤ gb160)); have n3_ := n2_; clear HB; have HB := n0_; have BK160 := n1_; have GW160 := n2_; have GE160 := n3_; clear n0_ n1_ n2_ n3_; clear hb hbox hg) | ((with_reducible refine gate_dst (N := 7) rfl ?_); refine box_event ?hg (N := 7) ?hd (cs := #[.int .u64 a3_0, .int .u64 a3_1]) (t := 24) ?hr ?_; (case hd => rfl); (case hg => rfl); (case hr => first | (go_simp; done) | (go_simp; rfl)); intro gb161 hg w96 hbox hb; have n0_ := Aside0.mk (blk_below (g := gb160) (o := .cells #[.int .u64 a2_0, .int .u64 a2_1] 24 (0, 0)) (by (with_reducible repeat (first | apply bN | apply bD | apply bA)); exact BK160.out) hb); have n1_ := Aside0.mk (below_step (by repeat (first | (with_reducible first | exact HB.out | apply lA | apply lN | apply lD | refine lS ?_ ‹_›) | exact HB.out)) hb); have n2_ := Aside0.mk (hbox); have n3_ := Aside0.mk ((by rw [hg]; exact (below_size (by repeat (first | (with_reducible first | exact HB.out | apply lA | apply lN | apply lD | refine lS ?_ ‹_›) | exact HB.out))) : w.heap.size ≤ gb161)); have n4_ := n3_; have n5_ := Aside0.mk ((by rw [hg]; exact Nat.ne_of_lt (blk_lt (g := gb160) (o := .cells #[.int .u64 a2_0, .int .u64 a2_1] 24 (0, 0)) (by (with_reducible repeat (first | apply bN | apply bD | apply bA)); exact BK160.out)) : gb160 ≠ gb161)); have n6_ := sy n5_; clear BK160; clear HB; have BK160 := n0_; have HB := n1_; have BK161 := n2_; have GW161 := n3_; have GE161 := n4_; have NB160_161 := n5_; have NB161_160 := n6_; clear n0_ n1_ n2_ n3_ n4_ n5_ n6_; clear hb hbox hg) | ((with_reducible refine gate_dst (N := 8) rfl ?_); refine box_event ?hg (N := 8) ?hd (cs := #[.int .u64 0, .int .u64 0]) (t := 24) ?hr ?_; (case hd => rfl); (case hg => rfl); (case hr => first | (go_simp; done) | (go_simp; rfl)); intro gb162 hg w97 hbox hb; have n0_ := Aside0.mk (blk_below (g := gb160) (o := .cells #[.int .u64 a2_0, .int .u64 a2_1] 24 (0, 0)) (by (with_reducible repeat (first | apply bN | apply bD | apply bA)); exact BK160.out) hb); have n1_ := Aside0.mk (blk_below (g := gb161) (o := .cells #[.int .u64 a3_0, .int .u64 a3_1] 24 (0, 0)) (by (with_reducible repeat (first | apply bN | apply bD | apply bA)); exact BK161.out) hb); have n2_ := Aside0.mk (below_step (by repeat (first | (with_reducible first | exact HB.out | apply lA | apply lN | apply lD | refine lS ?_ ‹_›) | exact HB.out)) hb); have n3_ := Aside0.mk (hbox); have n4_ := Aside0.mk ((by rw [hg]; exact (below_size (by repeat (first | (with_reducible first | exact HB.out | apply lA | apply lN | apply lD | refine lS ?_ ‹_›) | exact HB.out))) : w.heap.size ≤ gb162)); have n5_ := n4_; have n6_ := Aside0.mk ((by rw [hg]; exact Nat.ne_of_lt (blk_lt (g := gb160) (o := .cells #[.int .u64 a2_0, .int .u64 a2_1] 24 (0, 0)) (by (with_reducible repeat (first | apply bN | apply bD | apply bA)); exact BK160.out)) : gb160 ≠ gb162)); have n7_ := sy n6_; have n8_ := Aside0.mk ((by rw [hg]; exact Nat.ne_of_lt (blk_lt (g := gb161) (o := .cells #[.int .u64 a3_0, .int .u64 a3_1] 24 (0, 0)) (by (with_reducible repeat (first | apply bN | apply bD | apply bA)); exact BK161.out)) : gb161 ≠ gb162)); have n9_ := sy n8_; clear BK160; clear BK161; clear HB; have BK160 := n0_; have BK161 := n1_; have HB := n2_; have BK162 := n3_; have GW162 := n4_; have GE162 := n5_; have NB160_162 := n6_; have NB162_160 := n7_; have NB161_162 := n8_; have NB162_161 := n9_; clear n0_ n1_ n2_ n3_ n4_ n5_ n6_ n7_ n8_ n9_; clear hb hbox hg) | ((with_reducible refine gate_callee (f := 42) rfl ?_); refine goesL_ (some 19) rfl rfl Try.func42 (by kernel_rfl) rfl #[.int .i64 a0, .bool a1, .int .u64 0, .int .u64 0] rfl (by (try simp only [List.map_toArray, List.map_cons, List.map_nil]); first | done | rfl | (simp only [List.length_drop, List.length_take]; rfl)) ?_; (with_reducible refine (alu_Do.calls a0 a1 0 0 t163 t164 _ A5.out).mono ?_); rintro e w' ⟨rfl, ⟨nd, rfl⟩⟩; refine ⟨_, rfl, ?_⟩; (try (rw [drewN_self w97]; generalize hq_ : World.drewN w97 _ = w97; have n0_ : Aside0 (w97.heap[gb160]? = some (.cells #[.int .u64 a2_0, .int .u64 a2_1] 24 (0, 0))) := ⟨by rw [← hq_]; exact (by (with_reducible repeat (first | apply bN | apply bD | apply bA)); exact BK160.out)⟩; have n1_ : Aside0 (w97.heap[gb161]? = some (.cells #[.int .u64 a3_0, .int .u64 a3_1] 24 (0, 0))) := ⟨by rw [← hq_]; exact (by (with_reducible repeat (first | apply bN | apply bD | apply bA)); exact BK161.out)⟩; have n2_ : Aside0 (w97.heap[gb162]? = some (.cells #[.int .u64 0, .int .u64 0] 24 (0, 0))) := ⟨by rw [← hq_]; exact (by (with_reducible repeat (first | apply bN | apply bD | apply bA)); exact BK162.out)⟩; have n3_ : Aside0 (Below w.heap.size w w97) := ⟨by rw [← hq_]; exact (by repeat (first | (with_reducible first | exact HB.out | apply lA | apply lN | apply lD | refine lS ?_ ‹_›) | exact HB.out))⟩; clear BK160 BK161 BK162 HB hq_; have BK160 := n0_; have BK161 := n1_; have BK162 := n2_; have HB := n3_; clear n0_ n1_ n2_ n3_)); have hnb98 := NB162_160.out; have hnc98 := NB160_162.out; have hnb99 := NB162_161.out; have hnc99 := NB161_162.out; have hcz100_0 : w97.cell? ⟨gb162, 0, none⟩ = some (.int .u64 0) := (blk_cell BK162.out 0).trans rfl; have hcz100_1 : w97.cell? ⟨gb162, 1, none⟩ = some (.int .u64 0) := (blk_cell BK162.out 1).trans rfl; have hfz100_0 := blk_frozen BK162.out 0; have hfz100_1 := blk_frozen BK162.out 1))
  refine bodyPost_ret (results_ct rfl _ _ gb162 24 #[.int .u64 0, .int .u64 0] (0, 0) _ rfl (by (with_reducible repeat (first | apply bN | apply bD | apply bA)); refine blk_put (cs := #[.int .u64 0, .int .u64 0]) ?_ 1 _ rfl; (with_reducible repeat (first | apply bN | apply bD | apply bA)); refine blk_put (cs := #[.int .u64 0, .int .u64 0]) ?_ 0 _ rfl; (with_reducible repeat (first | apply bN | apply bD | apply bA)); exact BK162.out) Try.underlying24 rfl (by kernel_rfl)) rfl ?_
  exact ⟨by first | rfl | (simp [errW_none, errW_some] <;> rfl) | (simp [*, errW_none, errW_some] <;> rfl), by repeat (first | (with_reducible first | exact HB.out | apply lA | apply lN | apply lD | refine lS ?_ ‹_›) | exact HB.out)⟩

/-! ### bits_Len64: function 47 (given) -/
def bits_Len64.f (a0 : Int) : Option (Int) := if 0 ≤ a0 ∧ a0 ≤ 18446744073709551615 then some ((Lib.bitLen a0.toNat : Nat) : Int) else none
theorem bits_Len64.calls (a0 : Int) (r : Int) (w : World) (h : bits_Len64.f a0 = some r) :
  Calls Try.prog 47 #[.int .u64 a0] w fun e w' => e = .returned (.int .i64 r) ∧ Drawn0 w w' := by
 unfold bits_Len64.f at h
 split at h
 ·
  rename_i hb
  obtain rfl := Option.some.inj h
  refine (Try.bits_Len64 a0 w hb.1 hb.2).mono ?_
  rintro e w' ⟨rfl, rfl⟩
  exact ⟨rfl, Drawn0.refl _⟩
 ·
  exact absurd h (by simp)

end Go.Proofs.Ytladlljnpmpdpaa.PTnumSets
