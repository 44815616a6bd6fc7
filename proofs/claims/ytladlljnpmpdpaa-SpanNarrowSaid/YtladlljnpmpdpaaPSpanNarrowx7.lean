-- Written by a program of this session (a variant of the print), for this claim. Lean checks it.
import Derived.Test.YtladlljnpmpdpaaPSpanNarrowx0
namespace Go.Proofs.Ytladlljnpmpdpaa.PSpanNarrow
open Go.RowKit Go.Proofs.YtladlljnpmpdpaaW.PrintWords Go.Proofs.YtladlljnpmpdpaaW.PrintLast Go.Proofs.YtladlljnpmpdpaaW.PrintMore
attribute [local go_sem] max2_int min2_int max_two min_two max_three min_three max_four min_four   -- for this text's walks alone
attribute [local go_sem high] Go.Proofs.Ytladlljnpmpdpaa.NotLaw.not_u64 Go.Proofs.Ytladlljnpmpdpaa.NotLaw.not_u32 Go.Proofs.Ytladlljnpmpdpaa.NotLaw.not_u16 Go.Proofs.Ytladlljnpmpdpaa.NotLaw.not_u8
set_option linter.unusedVariables false
set_option linter.unusedSimpArgs false

/-! ### span_less: function 64 -/
def span_less.f (a0_0 : Int) (a0_1 : Int) (a1_0 : Int) (a1_1 : Int) (a2 : Bool) : Option (Int × Int × Int × Int × Bool) := if a2 = true then (if a1_1 < 0 then (some (a0_0, a0_1, a1_0, a1_1, false)) else (if a0_0 > 18446744073709551615 then (some (a0_0, a0_1, a1_0, a1_1, false)) else (if a0_0 ≤ (mn a0_1 (IntKind.u64.wrap (a1_1))) then (some (a0_0, mn a0_1 (IntKind.u64.wrap (a1_1)), mx a1_0 (IntKind.u64.wrap (a0_0)), a1_1, decide ((mx a1_0 (IntKind.u64.wrap (a0_0))) ≤ a1_1))) else (some (a0_0, mn a0_1 (IntKind.u64.wrap (a1_1)), mx a1_0 (IntKind.u64.wrap (a0_0)), a1_1, false))))) else (if a1_1 < 1 then (some (a0_0, a0_1, a1_0, a1_1, false)) else (if a0_0 > 18446744073709551614 then (some (a0_0, a0_1, a1_0, a1_1, false)) else (if a0_0 ≤ (mn a0_1 (IntKind.u64.wrap (a1_1 - 1))) then (some (a0_0, mn a0_1 (IntKind.u64.wrap (a1_1 - 1)), mx a1_0 (IntKind.u64.wrap (a0_0 + 1)), a1_1, decide ((mx a1_0 (IntKind.u64.wrap (a0_0 + 1))) ≤ a1_1))) else (some (a0_0, mn a0_1 (IntKind.u64.wrap (a1_1 - 1)), mx a1_0 (IntKind.u64.wrap (a0_0 + 1)), a1_1, false)))))
def span_less.T8 : Bool × List (List Nat × List Nat) := (true, [([], []), ([], []), ([], []), ([2], [2]), ([], []), ([4], [4]), ([3, 5], [3, 5]), ([6], [6]), ([7], [7]), ([8, 7], [7, 8]), ([7], [7]), ([10, 7], [7, 10]), ([9, 11, 7], [7, 9, 11]), ([7, 12], [7, 12]), ([0, 7, 0], [0]), ([1, 14, 0, 1, 14], [1]), ([13, 15, 0, 1, 2, 3, 4, 5, 6, 7, 8, 9, 10, 11, 12, 13, 14, 15], [13])])
def span_less.B8 : List Nat := [0, 0, 0, 4, 0, 16, 60, 124, 252, 508, 252, 1276, 4092, 8188, 253, 16639, 65535]
theorem span_less.tab8 : rtab .any (opsOf Try.f64 8) = span_less.T8 := by kernel_rfl
theorem span_less.bits8 : waitsOk span_less.T8.2 span_less.B8 = true := by kernel_rfl
set_option maxHeartbeats 8000000 in
set_option maxRecDepth 100000 in
theorem span_less.calls (a0_0 : Int) (a0_1 : Int) (a1_0 : Int) (a1_1 : Int) (a2 : Bool) (r1 : Int) (r2 : Int) (r3 : Int) (r4 : Int) (r5 : Bool) (w : World) (h : span_less.f a0_0 a0_1 a1_0 a1_1 a2 = some (r1, r2, r3, r4, r5)) :
  Calls Try.prog 64 #[.agg #[.int .u64 a0_0, .int .u64 a0_1], .agg #[.int .u64 a1_0, .int .u64 a1_1], .bool a2] w fun e w' => e = .returned (.tuple #[.agg #[.int .u64 r1, .int .u64 r2], .agg #[.int .u64 r3, .int .u64 r4], .bool r5]) ∧ Below w.heap.size w w' := by
 have hu58 := Try.underlying58
 have HB := Aside0.mk (Below.refl w.heap.size w)
 have H : (if a2 = true then (if a1_1 < 0 then (some (a0_0, a0_1, a1_0, a1_1, false)) else (if a0_0 > 18446744073709551615 then (some (a0_0, a0_1, a1_0, a1_1, false)) else (if a0_0 ≤ (mn a0_1 (IntKind.u64.wrap (a1_1))) then (some (a0_0, mn a0_1 (IntKind.u64.wrap (a1_1)), mx a1_0 (IntKind.u64.wrap (a0_0)), a1_1, decide ((mx a1_0 (IntKind.u64.wrap (a0_0))) ≤ a1_1))) else (some (a0_0, mn a0_1 (IntKind.u64.wrap (a1_1)), mx a1_0 (IntKind.u64.wrap (a0_0)), a1_1, false))))) else (if a1_1 < 1 then (some (a0_0, a0_1, a1_0, a1_1, false)) else (if a0_0 > 18446744073709551614 then (some (a0_0, a0_1, a1_0, a1_1, false)) else (if a0_0 ≤ (mn a0_1 (IntKind.u64.wrap (a1_1 - 1))) then (some (a0_0, mn a0_1 (IntKind.u64.wrap (a1_1 - 1)), mx a1_0 (IntKind.u64.wrap (a0_0 + 1)), a1_1, decide ((mx a1_0 (IntKind.u64.wrap (a0_0 + 1))) ≤ a1_1))) else (some (a0_0, mn a0_1 (IntKind.u64.wrap (a1_1 - 1)), mx a1_0 (IntKind.u64.wrap (a0_0 + 1)), a1_1, false)))))) = some (r1, r2, r3, r4, r5) := h
 clear h
 by_cases c4 : a2 = true
 ·
  subst c4
  have H1 : (if a1_1 < 0 then (some (a0_0, a0_1, a1_0, a1_1, false)) else (if a0_0 > 18446744073709551615 then (some (a0_0, a0_1, a1_0, a1_1, false)) else (if a0_0 ≤ (mn a0_1 (IntKind.u64.wrap (a1_1))) then (some (a0_0, mn a0_1 (IntKind.u64.wrap (a1_1)), mx a1_0 (IntKind.u64.wrap (a0_0)), a1_1, decide ((mx a1_0 (IntKind.u64.wrap (a0_0))) ≤ a1_1))) else (some (a0_0, mn a0_1 (IntKind.u64.wrap (a1_1)), mx a1_0 (IntKind.u64.wrap (a0_0)), a1_1, false))))) = some (r1, r2, r3, r4, r5) := by rw [if_pos rfl] at H; exact H
  clear H; have H := H1; clear H1
  by_cases c5 : a1_1 < 0
  ·
   rw [if_pos c5] at H
   have c5b0 : decide (a1_1 < 0) = true := decide_eq_true c5; clear c5; simp only [Option.some.injEq, Prod.mk.injEq] at H; obtain ⟨rfl, rfl, rfl, rfl, rfl⟩ := H
   go_enter Try.func64, Try.ntmps64
   try go_wp2_with (first | ((with_reducible refine gate_dst (N := 3) rfl ?_); refine box_event ?hg (N := 3) ?hd (cs := #[.int .u64 a0_0, .int .u64 a0_1]) (t := 58) ?hr ?_; (case hd => rfl); (case hg => rfl); (case hr => first | (go_simp; done) | (go_simp; rfl)); intro gb170 hg w6 hbox hb; have n0_ := Aside0.mk (below_step (by repeat (first | (with_reducible first | exact HB.out | apply lA | apply lN | apply lD) | exact HB.out)) hb); have n1_ := Aside0.mk (hbox); have n2_ := Aside0.mk ((by rw [hg]; exact (below_size (by repeat (first | (with_reducible first | exact HB.out | apply lA | apply lN | apply lD) | exact HB.out))) : w.heap.size ≤ gb170)); have n3_ := n2_; clear HB; have HB := n0_; have BK170 := n1_; have GW170 := n2_; have GE170 := n3_; clear n0_ n1_ n2_ n3_; clear hb hbox hg) | ((with_reducible refine gate_dst (N := 4) rfl ?_); refine box_event ?hg (N := 4) ?hd (cs := #[.int .u64 a1_0, .int .u64 a1_1]) (t := 58) ?hr ?_; (case hd => rfl); (case hg => rfl); (case hr => first | (go_simp; done) | (go_simp; rfl)); intro gb171 hg w7 hbox hb; have n0_ := Aside0.mk (blk_below (g := gb170) (o := .cells #[.int .u64 a0_0, .int .u64 a0_1] 58 (0, 0)) (by (with_reducible repeat (first | apply bN | apply bD | apply bA)); exact BK170.out) hb); have n1_ := Aside0.mk (below_step (by repeat (first | (with_reducible first | exact HB.out | apply lA | apply lN | apply lD | refine lS ?_ ‹_›) | exact HB.out)) hb); have n2_ := Aside0.mk (hbox); have n3_ := Aside0.mk ((by rw [hg]; exact (below_size (by repeat (first | (with_reducible first | exact HB.out | apply lA | apply lN | apply lD | refine lS ?_ ‹_›) | exact HB.out))) : w.heap.size ≤ gb171)); have n4_ := n3_; have n5_ := Aside0.mk ((by rw [hg]; exact Nat.ne_of_lt (blk_lt (g := gb170) (o := .cells #[.int .u64 a0_0, .int .u64 a0_1] 58 (0, 0)) (by (with_reducible repeat (first | apply bN | apply bD | apply bA)); exact BK170.out)) : gb170 ≠ gb171)); have n6_ := sy n5_; clear BK170; clear HB; have BK170 := n0_; have HB := n1_; have BK171 := n2_; have GW171 := n3_; have GE171 := n4_; have NB170_171 := n5_; have NB171_170 := n6_; clear n0_ n1_ n2_ n3_ n4_ n5_ n6_; clear hb hbox hg) | ((with_reducible refine gate_dst (N := 6) rfl ?_); refine box_event ?hg (N := 6) ?hd (cs := #[.int .u64 0, .int .u64 0]) (t := 58) ?hr ?_; (case hd => rfl); (case hg => rfl); (case hr => first | (go_simp; done) | (go_simp; rfl)); intro gb172 hg w8 hbox hb; have n0_ := Aside0.mk (blk_below (g := gb170) (o := .cells #[.int .u64 a0_0, .int .u64 a0_1] 58 (0, 0)) (by (with_reducible repeat (first | apply bN | apply bD | apply bA)); exact BK170.out) hb); have n1_ := Aside0.mk (blk_below (g := gb171) (o := .cells #[.int .u64 a1_0, .int .u64 a1_1] 58 (0, 0)) (by (with_reducible repeat (first | apply bN | apply bD | apply bA)); exact BK171.out) hb); have n2_ := Aside0.mk (below_step (by repeat (first | (with_reducible first | exact HB.out | apply lA | apply lN | apply lD | refine lS ?_ ‹_›) | exact HB.out)) hb); have n3_ := Aside0.mk (hbox); have n4_ := Aside0.mk ((by rw [hg]; exact (below_size (by repeat (first | (with_reducible first | exact HB.out | apply lA | apply lN | apply lD | refine lS ?_ ‹_›) | exact HB.out))) : w.heap.size ≤ gb172)); have n5_ := n4_; have n6_ := Aside0.mk ((by rw [hg]; exact Nat.ne_of_lt (blk_lt (g := gb170) (o := .cells #[.int .u64 a0_0, .int .u64 a0_1] 58 (0, 0)) (by (with_reducible repeat (first | apply bN | apply bD | apply bA)); exact BK170.out)) : gb170 ≠ gb172)); have n7_ := sy n6_; have n8_ := Aside0.mk ((by rw [hg]; exact Nat.ne_of_lt (blk_lt (g := gb171) (o := .cells #[.int .u64 a1_0, .int .u64 a1_1] 58 (0, 0)) (by (with_reducible repeat (first | apply bN | apply bD | apply bA)); exact BK171.out)) : gb171 ≠ gb172)); have n9_ := sy n8_; clear BK170; clear BK171; clear HB; have BK170 := n0_; have BK171 := n1_; have HB := n2_; have BK172 := n3_; have GW172 := n4_; have GE172 := n5_; have NB170_172 := n6_; have NB172_170 := n7_; have NB171_172 := n8_; have NB172_171 := n9_; clear n0_ n1_ n2_ n3_ n4_ n5_ n6_ n7_ n8_ n9_; clear hb hbox hg) | ((with_reducible refine gate_dst (N := 7) rfl ?_); refine box_event ?hg (N := 7) ?hd (cs := #[.int .u64 0, .int .u64 0]) (t := 58) ?hr ?_; (case hd => rfl); (case hg => rfl); (case hr => first | (go_simp; done) | (go_simp; rfl)); intro gb173 hg w9 hbox hb; have n0_ := Aside0.mk (blk_below (g := gb170) (o := .cells #[.int .u64 a0_0, .int .u64 a0_1] 58 (0, 0)) (by (with_reducible repeat (first | apply bN | apply bD | apply bA)); exact BK170.out) hb); have n1_ := Aside0.mk (blk_below (g := gb171) (o := .cells #[.int .u64 a1_0, .int .u64 a1_1] 58 (0, 0)) (by (with_reducible repeat (first | apply bN | apply bD | apply bA)); exact BK171.out) hb); have n2_ := Aside0.mk (blk_below (g := gb172) (o := .cells #[.int .u64 0, .int .u64 0] 58 (0, 0)) (by (with_reducible repeat (first | apply bN | apply bD | apply bA)); exact BK172.out) hb); have n3_ := Aside0.mk (below_step (by repeat (first | (with_reducible first | exact HB.out | apply lA | apply lN | apply lD | refine lS ?_ ‹_›) | exact HB.out)) hb); have n4_ := Aside0.mk (hbox); have n5_ := Aside0.mk ((by rw [hg]; exact (below_size (by repeat (first | (with_reducible first | exact HB.out | apply lA | apply lN | apply lD | refine lS ?_ ‹_›) | exact HB.out))) : w.heap.size ≤ gb173)); have n6_ := n5_; have n7_ := Aside0.mk ((by rw [hg]; exact Nat.ne_of_lt (blk_lt (g := gb170) (o := .cells #[.int .u64 a0_0, .int .u64 a0_1] 58 (0, 0)) (by (with_reducible repeat (first | apply bN | apply bD | apply bA)); exact BK170.out)) : gb170 ≠ gb173)); have n8_ := sy n7_; have n9_ := Aside0.mk ((by rw [hg]; exact Nat.ne_of_lt (blk_lt (g := gb171) (o := .cells #[.int .u64 a1_0, .int .u64 a1_1] 58 (0, 0)) (by (with_reducible repeat (first | apply bN | apply bD | apply bA)); exact BK171.out)) : gb171 ≠ gb173)); have n10_ := sy n9_; have n11_ := Aside0.mk ((by rw [hg]; exact Nat.ne_of_lt (blk_lt (g := gb172) (o := .cells #[.int .u64 0, .int .u64 0] 58 (0, 0)) (by (with_reducible repeat (first | apply bN | apply bD | apply bA)); exact BK172.out)) : gb172 ≠ gb173)); have n12_ := sy n11_; clear BK170; clear BK171; clear BK172; clear HB; have BK170 := n0_; have BK171 := n1_; have BK172 := n2_; have HB := n3_; have BK173 := n4_; have GW173 := n5_; have GE173 := n6_; have NB170_173 := n7_; have NB173_170 := n8_; have NB171_173 := n9_; have NB173_171 := n10_; have NB172_173 := n11_; have NB173_172 := n12_; clear n0_ n1_ n2_ n3_ n4_ n5_ n6_ n7_ n8_ n9_ n10_ n11_ n12_; clear hb hbox hg; have hnb10 := NB171_170.out; have hnc10 := NB170_171.out; have hnb11 := NB171_172.out; have hnc11 := NB172_171.out; have hnb12 := NB171_173.out; have hnc12 := NB173_171.out; have hcz13_0 : w9.cell? ⟨gb171, 0, none⟩ = some (.int .u64 a1_0) := (blk_cell BK171.out 0).trans rfl; have hcz13_1 : w9.cell? ⟨gb171, 1, none⟩ = some (.int .u64 a1_1) := (blk_cell BK171.out 1).trans rfl; have hfz13_0 := blk_frozen BK171.out 0; have hfz13_1 := blk_frozen BK171.out 1))
   have n0_ := Aside0.mk (blk_drew BK170.out); have n1_ := Aside0.mk (blk_drew BK171.out); have n2_ := Aside0.mk (blk_drew BK172.out); have n3_ := Aside0.mk (blk_drew BK173.out)
   have n4_ := Aside0.mk (below_drew1 HB.out)
   clear BK170; clear BK171; clear BK172; clear BK173; clear HB; have BK170 := n0_; have BK171 := n1_; have BK172 := n2_; have BK173 := n3_; have HB := n4_; clear n0_ n1_ n2_ n3_ n4_
   refine start_ (n := 5) (S := fun w' => w'.cell? ⟨gb170, 0, none⟩ = some (.int .u64 a0_0) ∧ w'.cell? ⟨gb170, 1, none⟩ = some (.int .u64 a0_1) ∧ w'.cell? ⟨gb171, 0, none⟩ = some (.int .u64 a1_0) ∧ w'.cell? ⟨gb171, 1, none⟩ = some (.int .u64 a1_1)) (ds := []) #[false, false, false, false, false] (by kernel_rfl) rfl rfl ⟨(blk_cell BK170.out 0).trans rfl, (blk_cell BK170.out 1).trans rfl, (blk_cell BK171.out 0).trans rfl, (blk_cell BK171.out 1).trans rfl⟩ (fun hHeld => ?_)
   generalize w9.drew = w14 at BK170 BK171 BK172 BK173 HB hHeld ⊢
   refine take_ (i := 0) (N := some 22) (v := ?_) (a' := ?_) #[true, false, false, false, false] rfl rfl (by kernel_rfl) (fun _ _ _ h => h) (Or.inl ⟨by rfl, ?_⟩) hHeld ?_ ?_
   rotate_left
   ·
    rintro w' ⟨s0, s1, s2, s3⟩
    go_simp; with_reducible rfl
   rotate_left
   ·
    simp only [Act.put, List.setIfInBounds_toArray, List.set_cons_zero, List.set_cons_succ, i64_w, i32_w]
    rfl
   refine take_ (i := 1) (N := some 23) (v := ?_) (a' := ?_) #[true, true, false, false, false] rfl rfl (by kernel_rfl) (fun _ _ _ h => h) (Or.inl ⟨by rfl, ?_⟩) hHeld ?_ ?_
   rotate_left
   ·
    rintro w' ⟨s0, s1, s2, s3⟩
    go_simp; with_reducible rfl
   rotate_left
   ·
    simp only [Act.put, List.setIfInBounds_toArray, List.set_cons_zero, List.set_cons_succ, i64_w, i32_w]
    rfl
   refine one_ (i := 2) (N := none) #[true, true, true, false, false] rfl rfl (by kernel_rfl) (by decide) (fun K hK => ?_)
   have hs15 : w14.cell? ⟨gb172, 0, none⟩ = some (.int .u64 0) := (blk_cell BK172.out 0).trans rfl
   have hfs15 := blk_frozen BK172.out 0
   have hns15_0 := NB170_172.out
   have hns15_1 := NB171_172.out
   have hns15_3 := NB173_172.out
   have hms15_0 := NB172_170.out
   have hms15_1 := NB172_171.out
   have hms15_3 := NB172_173.out
   have hs16 : w14.cell? ⟨gb172, 1, none⟩ = some (.int .u64 0) := (blk_cell BK172.out 1).trans rfl
   have hfs16 := blk_frozen BK172.out 1
   have hns16_0 := NB170_172.out
   have hns16_1 := NB171_172.out
   have hns16_3 := NB173_172.out
   have hms16_0 := NB172_170.out
   have hms16_1 := NB172_171.out
   have hms16_3 := NB172_173.out
   refine skip_ (w1 := ?_) (by rfl) rfl ?_ ?_
   rotate_left
   ·
    go_simp
    rfl
   refine hK.out _ _ ⟨((cell_far (p := ⟨gb172, _, none⟩) NB170_172.out _).trans (((cell_far (p := ⟨gb172, _, none⟩) NB170_172.out _).trans (hHeld.1)))), ((cell_far (p := ⟨gb172, _, none⟩) NB170_172.out _).trans (((cell_far (p := ⟨gb172, _, none⟩) NB170_172.out _).trans (hHeld.2.1)))), ((cell_far (p := ⟨gb172, _, none⟩) NB171_172.out _).trans (((cell_far (p := ⟨gb172, _, none⟩) NB171_172.out _).trans (hHeld.2.2.1)))), ((cell_far (p := ⟨gb172, _, none⟩) NB171_172.out _).trans (((cell_far (p := ⟨gb172, _, none⟩) NB171_172.out _).trans (hHeld.2.2.2))))⟩ (fun hHeld => ?_)
   clear hK K
   refine one_ (i := 3) (N := none) #[true, true, true, true, false] rfl rfl (by kernel_rfl) (by decide) (fun K hK => ?_)
   have hs17 : w14.cell? ⟨gb173, 0, none⟩ = some (.int .u64 0) := (blk_cell BK173.out 0).trans rfl
   have hfs17 := blk_frozen BK173.out 0
   have hns17_0 := NB170_173.out
   have hns17_1 := NB171_173.out
   have hns17_2 := NB172_173.out
   have hms17_0 := NB173_170.out
   have hms17_1 := NB173_171.out
   have hms17_2 := NB173_172.out
   have hs18 : w14.cell? ⟨gb173, 1, none⟩ = some (.int .u64 0) := (blk_cell BK173.out 1).trans rfl
   have hfs18 := blk_frozen BK173.out 1
   have hns18_0 := NB170_173.out
   have hns18_1 := NB171_173.out
   have hns18_2 := NB172_173.out
   have hms18_0 := NB173_170.out
   have hms18_1 := NB173_171.out
   have hms18_2 := NB173_172.out
   refine skip_ (w1 := ?_) (by rfl) rfl ?_ ?_
   rotate_left
   ·
    go_simp
    rfl
   refine hK.out _ _ ⟨((cell_far (p := ⟨gb173, _, none⟩) NB170_173.out _).trans (((cell_far (p := ⟨gb173, _, none⟩) NB170_173.out _).trans (hHeld.1)))), ((cell_far (p := ⟨gb173, _, none⟩) NB170_173.out _).trans (((cell_far (p := ⟨gb173, _, none⟩) NB170_173.out _).trans (hHeld.2.1)))), ((cell_far (p := ⟨gb173, _, none⟩) NB171_173.out _).trans (((cell_far (p := ⟨gb173, _, none⟩) NB171_173.out _).trans (hHeld.2.2.1)))), ((cell_far (p := ⟨gb173, _, none⟩) NB171_173.out _).trans (((cell_far (p := ⟨gb173, _, none⟩) NB171_173.out _).trans (hHeld.2.2.2))))⟩ (fun hHeld => ?_)
   clear hK K
   refine pure_ (i := 4) (N := some 8) (v := ?_) (a' := ?_) #[true, true, true, true, true] rfl rfl (by kernel_rfl) (fun _ _ _ h => h) (Or.inl ⟨by rfl, ?_⟩) ?_ ?_
   rotate_left
   ·
    intro w'
    go_simp; with_reducible rfl
   rotate_left
   ·
    simp only [Act.put, List.setIfInBounds_toArray, List.set_cons_zero, List.set_cons_succ, i64_w, i32_w]
    rfl
   refine done_ (by kernel_rfl) ?_
   try go_wp2
   refine bodyPost_ret (results_list (rs := [.cell 6 58, .cell 7 58, .tmp 8]) rfl (by simp) (.cell gb172 58 #[.int .u64 a0_0, .int .u64 a0_1] (0, 0) _ rfl (by (with_reducible repeat (first | apply bN | apply bD | apply bA)); refine blk_far ?_ NB172_173.out _; (with_reducible repeat (first | apply bN | apply bD | apply bA)); refine blk_far ?_ NB172_173.out _; (with_reducible repeat (first | apply bN | apply bD | apply bA)); refine blk_put (cs := #[.int .u64 a0_0, .int .u64 0]) ?_ 1 _ rfl; (with_reducible repeat (first | apply bN | apply bD | apply bA)); refine blk_put (cs := #[.int .u64 0, .int .u64 0]) ?_ 0 _ rfl; (with_reducible repeat (first | apply bN | apply bD | apply bA)); exact BK172.out) Try.underlying58 rfl (by kernel_rfl) (.cell gb173 58 #[.int .u64 a1_0, .int .u64 a1_1] (0, 0) _ rfl (by (with_reducible repeat (first | apply bN | apply bD | apply bA)); refine blk_put (cs := #[.int .u64 a1_0, .int .u64 0]) ?_ 1 _ rfl; (with_reducible repeat (first | apply bN | apply bD | apply bA)); refine blk_put (cs := #[.int .u64 0, .int .u64 0]) ?_ 0 _ rfl; (with_reducible repeat (first | apply bN | apply bD | apply bA)); refine blk_far ?_ NB173_172.out _; (with_reducible repeat (first | apply bN | apply bD | apply bA)); refine blk_far ?_ NB173_172.out _; (with_reducible repeat (first | apply bN | apply bD | apply bA)); exact BK173.out) Try.underlying58 rfl (by kernel_rfl) (.tmp .nil)))) rfl ?_
   exact ⟨by first | rfl | (simp [errW_none, errW_some] <;> rfl) | (simp [*, errW_none, errW_some] <;> rfl), by repeat (first | (with_reducible first | exact HB.out | apply lA | apply lN | apply lD | refine lS ?_ ‹_›) | exact HB.out)⟩
  ·
   rw [if_neg c5] at H
   have c5b0 : decide (a1_1 < 0) = false := decide_eq_false c5; clear c5
   by_cases c19 : a0_0 > 18446744073709551615
   ·
    rw [if_pos c19] at H
    have c19b0 : decide (18446744073709551615 < a0_0) = true := decide_eq_true c19; clear c19; simp only [Option.some.injEq, Prod.mk.injEq] at H; obtain ⟨rfl, rfl, rfl, rfl, rfl⟩ := H
    go_enter Try.func64, Try.ntmps64
    try go_wp2_with (first | ((with_reducible refine gate_dst (N := 3) rfl ?_); refine box_event ?hg (N := 3) ?hd (cs := #[.int .u64 a0_0, .int .u64 a0_1]) (t := 58) ?hr ?_; (case hd => rfl); (case hg => rfl); (case hr => first | (go_simp; done) | (go_simp; rfl)); intro gb170 hg w20 hbox hb; have n0_ := Aside0.mk (below_step (by repeat (first | (with_reducible first | exact HB.out | apply lA | apply lN | apply lD) | exact HB.out)) hb); have n1_ := Aside0.mk (hbox); have n2_ := Aside0.mk ((by rw [hg]; exact (below_size (by repeat (first | (with_reducible first | exact HB.out | apply lA | apply lN | apply lD) | exact HB.out))) : w.heap.size ≤ gb170)); have n3_ := n2_; clear HB; have HB := n0_; have BK170 := n1_; have GW170 := n2_; have GE170 := n3_; clear n0_ n1_ n2_ n3_; clear hb hbox hg) | ((with_reducible refine gate_dst (N := 4) rfl ?_); refine box_event ?hg (N := 4) ?hd (cs := #[.int .u64 a1_0, .int .u64 a1_1]) (t := 58) ?hr ?_; (case hd => rfl); (case hg => rfl); (case hr => first | (go_simp; done) | (go_simp; rfl)); intro gb171 hg w21 hbox hb; have n0_ := Aside0.mk (blk_below (g := gb170) (o := .cells #[.int .u64 a0_0, .int .u64 a0_1] 58 (0, 0)) (by (with_reducible repeat (first | apply bN | apply bD | apply bA)); exact BK170.out) hb); have n1_ := Aside0.mk (below_step (by repeat (first | (with_reducible first | exact HB.out | apply lA | apply lN | apply lD | refine lS ?_ ‹_›) | exact HB.out)) hb); have n2_ := Aside0.mk (hbox); have n3_ := Aside0.mk ((by rw [hg]; exact (below_size (by repeat (first | (with_reducible first | exact HB.out | apply lA | apply lN | apply lD | refine lS ?_ ‹_›) | exact HB.out))) : w.heap.size ≤ gb171)); have n4_ := n3_; have n5_ := Aside0.mk ((by rw [hg]; exact Nat.ne_of_lt (blk_lt (g := gb170) (o := .cells #[.int .u64 a0_0, .int .u64 a0_1] 58 (0, 0)) (by (with_reducible repeat (first | apply bN | apply bD | apply bA)); exact BK170.out)) : gb170 ≠ gb171)); have n6_ := sy n5_; clear BK170; clear HB; have BK170 := n0_; have HB := n1_; have BK171 := n2_; have GW171 := n3_; have GE171 := n4_; have NB170_171 := n5_; have NB171_170 := n6_; clear n0_ n1_ n2_ n3_ n4_ n5_ n6_; clear hb hbox hg) | ((with_reducible refine gate_dst (N := 6) rfl ?_); refine box_event ?hg (N := 6) ?hd (cs := #[.int .u64 0, .int .u64 0]) (t := 58) ?hr ?_; (case hd => rfl); (case hg => rfl); (case hr => first | (go_simp; done) | (go_simp; rfl)); intro gb172 hg w22 hbox hb; have n0_ := Aside0.mk (blk_below (g := gb170) (o := .cells #[.int .u64 a0_0, .int .u64 a0_1] 58 (0, 0)) (by (with_reducible repeat (first | apply bN | apply bD | apply bA)); exact BK170.out) hb); have n1_ := Aside0.mk (blk_below (g := gb171) (o := .cells #[.int .u64 a1_0, .int .u64 a1_1] 58 (0, 0)) (by (with_reducible repeat (first | apply bN | apply bD | apply bA)); exact BK171.out) hb); have n2_ := Aside0.mk (below_step (by repeat (first | (with_reducible first | exact HB.out | apply lA | apply lN | apply lD | refine lS ?_ ‹_›) | exact HB.out)) hb); have n3_ := Aside0.mk (hbox); have n4_ := Aside0.mk ((by rw [hg]; exact (below_size (by repeat (first | (with_reducible first | exact HB.out | apply lA | apply lN | apply lD | refine lS ?_ ‹_›) | exact HB.out))) : w.heap.size ≤ gb172)); have n5_ := n4_; have n6_ := Aside0.mk ((by rw [hg]; exact Nat.ne_of_lt (blk_lt (g := gb170) (o := .cells #[.int .u64 a0_0, .int .u64 a0_1] 58 (0, 0)) (by (with_reducible repeat (first | apply bN | apply bD | apply bA)); exact BK170.out)) : gb170 ≠ gb172)); have n7_ := sy n6_; have n8_ := Aside0.mk ((by rw [hg]; exact Nat.ne_of_lt (blk_lt (g := gb171) (o := .cells #[.int .u64 a1_0, .int .u64 a1_1] 58 (0, 0)) (by (with_reducible repeat (first | apply bN | apply bD | apply bA)); exact BK171.out)) : gb171 ≠ gb172)); have n9_ := sy n8_; clear BK170; clear BK171; clear HB; have BK170 := n0_; have BK171 := n1_; have HB := n2_; have BK172 := n3_; have GW172 := n4_; have GE172 := n5_; have NB170_172 := n6_; have NB172_170 := n7_; have NB171_172 := n8_; have NB172_171 := n9_; clear n0_ n1_ n2_ n3_ n4_ n5_ n6_ n7_ n8_ n9_; clear hb hbox hg) | ((with_reducible refine gate_dst (N := 7) rfl ?_); refine box_event ?hg (N := 7) ?hd (cs := #[.int .u64 0, .int .u64 0]) (t := 58) ?hr ?_; (case hd => rfl); (case hg => rfl); (case hr => first | (go_simp; done) | (go_simp; rfl)); intro gb173 hg w23 hbox hb; have n0_ := Aside0.mk (blk_below (g := gb170) (o := .cells #[.int .u64 a0_0, .int .u64 a0_1] 58 (0, 0)) (by (with_reducible repeat (first | apply bN | apply bD | apply bA)); exact BK170.out) hb); have n1_ := Aside0.mk (blk_below (g := gb171) (o := .cells #[.int .u64 a1_0, .int .u64 a1_1] 58 (0, 0)) (by (with_reducible repeat (first | apply bN | apply bD | apply bA)); exact BK171.out) hb); have n2_ := Aside0.mk (blk_below (g := gb172) (o := .cells #[.int .u64 0, .int .u64 0] 58 (0, 0)) (by (with_reducible repeat (first | apply bN | apply bD | apply bA)); exact BK172.out) hb); have n3_ := Aside0.mk (below_step (by repeat (first | (with_reducible first | exact HB.out | apply lA | apply lN | apply lD | refine lS ?_ ‹_›) | exact HB.out)) hb); have n4_ := Aside0.mk (hbox); have n5_ := Aside0.mk ((by rw [hg]; exact (below_size (by repeat (first | (with_reducible first | exact HB.out | apply lA | apply lN | apply lD | refine lS ?_ ‹_›) | exact HB.out))) : w.heap.size ≤ gb173)); have n6_ := n5_; have n7_ := Aside0.mk ((by rw [hg]; exact Nat.ne_of_lt (blk_lt (g := gb170) (o := .cells #[.int .u64 a0_0, .int .u64 a0_1] 58 (0, 0)) (by (with_reducible repeat (first | apply bN | apply bD | apply bA)); exact BK170.out)) : gb170 ≠ gb173)); have n8_ := sy n7_; have n9_ := Aside0.mk ((by rw [hg]; exact Nat.ne_of_lt (blk_lt (g := gb171) (o := .cells #[.int .u64 a1_0, .int .u64 a1_1] 58 (0, 0)) (by (with_reducible repeat (first | apply bN | apply bD | apply bA)); exact BK171.out)) : gb171 ≠ gb173)); have n10_ := sy n9_; have n11_ := Aside0.mk ((by rw [hg]; exact Nat.ne_of_lt (blk_lt (g := gb172) (o := .cells #[.int .u64 0, .int .u64 0] 58 (0, 0)) (by (with_reducible repeat (first | apply bN | apply bD | apply bA)); exact BK172.out)) : gb172 ≠ gb173)); have n12_ := sy n11_; clear BK170; clear BK171; clear BK172; clear HB; have BK170 := n0_; have BK171 := n1_; have BK172 := n2_; have HB := n3_; have BK173 := n4_; have GW173 := n5_; have GE173 := n6_; have NB170_173 := n7_; have NB173_170 := n8_; have NB171_173 := n9_; have NB173_171 := n10_; have NB172_173 := n11_; have NB173_172 := n12_; clear n0_ n1_ n2_ n3_ n4_ n5_ n6_ n7_ n8_ n9_ n10_ n11_ n12_; clear hb hbox hg; have hnb24 := NB171_170.out; have hnc24 := NB170_171.out; have hnb25 := NB171_172.out; have hnc25 := NB172_171.out; have hnb26 := NB171_173.out; have hnc26 := NB173_171.out; have hcz27_0 : w23.cell? ⟨gb171, 0, none⟩ = some (.int .u64 a1_0) := (blk_cell BK171.out 0).trans rfl; have hcz27_1 : w23.cell? ⟨gb171, 1, none⟩ = some (.int .u64 a1_1) := (blk_cell BK171.out 1).trans rfl; have hfz27_0 := blk_frozen BK171.out 0; have hfz27_1 := blk_frozen BK171.out 1; have hnb28 := NB170_172.out; have hnc28 := NB172_170.out; have hnb29 := NB170_173.out; have hnc29 := NB173_170.out; have hcz30_0 : w23.cell? ⟨gb170, 0, none⟩ = some (.int .u64 a0_0) := (blk_cell BK170.out 0).trans rfl; have hcz30_1 : w23.cell? ⟨gb170, 1, none⟩ = some (.int .u64 a0_1) := (blk_cell BK170.out 1).trans rfl; have hfz30_0 := blk_frozen BK170.out 0; have hfz30_1 := blk_frozen BK170.out 1))
    have n0_ := Aside0.mk (blk_drew BK170.out); have n1_ := Aside0.mk (blk_drew BK171.out); have n2_ := Aside0.mk (blk_drew BK172.out); have n3_ := Aside0.mk (blk_drew BK173.out)
    have n4_ := Aside0.mk (below_drew1 HB.out)
    clear BK170; clear BK171; clear BK172; clear BK173; clear HB; have BK170 := n0_; have BK171 := n1_; have BK172 := n2_; have BK173 := n3_; have HB := n4_; clear n0_ n1_ n2_ n3_ n4_
    refine start_ (n := 5) (S := fun w' => w'.cell? ⟨gb170, 0, none⟩ = some (.int .u64 a0_0) ∧ w'.cell? ⟨gb170, 1, none⟩ = some (.int .u64 a0_1) ∧ w'.cell? ⟨gb171, 0, none⟩ = some (.int .u64 a1_0) ∧ w'.cell? ⟨gb171, 1, none⟩ = some (.int .u64 a1_1)) (ds := []) #[false, false, false, false, false] (by kernel_rfl) rfl rfl ⟨(blk_cell BK170.out 0).trans rfl, (blk_cell BK170.out 1).trans rfl, (blk_cell BK171.out 0).trans rfl, (blk_cell BK171.out 1).trans rfl⟩ (fun hHeld => ?_)
    generalize w23.drew = w31 at BK170 BK171 BK172 BK173 HB hHeld ⊢
    refine take_ (i := 0) (N := some 22) (v := ?_) (a' := ?_) #[true, false, false, false, false] rfl rfl (by kernel_rfl) (fun _ _ _ h => h) (Or.inl ⟨by rfl, ?_⟩) hHeld ?_ ?_
    rotate_left
    ·
     rintro w' ⟨s0, s1, s2, s3⟩
     go_simp; with_reducible rfl
    rotate_left
    ·
     simp only [Act.put, List.setIfInBounds_toArray, List.set_cons_zero, List.set_cons_succ, i64_w, i32_w]
     rfl
    refine take_ (i := 1) (N := some 23) (v := ?_) (a' := ?_) #[true, true, false, false, false] rfl rfl (by kernel_rfl) (fun _ _ _ h => h) (Or.inl ⟨by rfl, ?_⟩) hHeld ?_ ?_
    rotate_left
    ·
     rintro w' ⟨s0, s1, s2, s3⟩
     go_simp; with_reducible rfl
    rotate_left
    ·
     simp only [Act.put, List.setIfInBounds_toArray, List.set_cons_zero, List.set_cons_succ, i64_w, i32_w]
     rfl
    refine one_ (i := 2) (N := none) #[true, true, true, false, false] rfl rfl (by kernel_rfl) (by decide) (fun K hK => ?_)
    have hs32 : w31.cell? ⟨gb172, 0, none⟩ = some (.int .u64 0) := (blk_cell BK172.out 0).trans rfl
    have hfs32 := blk_frozen BK172.out 0
    have hns32_0 := NB170_172.out
    have hns32_1 := NB171_172.out
    have hns32_3 := NB173_172.out
    have hms32_0 := NB172_170.out
    have hms32_1 := NB172_171.out
    have hms32_3 := NB172_173.out
    have hs33 : w31.cell? ⟨gb172, 1, none⟩ = some (.int .u64 0) := (blk_cell BK172.out 1).trans rfl
    have hfs33 := blk_frozen BK172.out 1
    have hns33_0 := NB170_172.out
    have hns33_1 := NB171_172.out
    have hns33_3 := NB173_172.out
    have hms33_0 := NB172_170.out
    have hms33_1 := NB172_171.out
    have hms33_3 := NB172_173.out
    refine skip_ (w1 := ?_) (by rfl) rfl ?_ ?_
    rotate_left
    ·
     go_simp
     rfl
    refine hK.out _ _ ⟨((cell_far (p := ⟨gb172, _, none⟩) NB170_172.out _).trans (((cell_far (p := ⟨gb172, _, none⟩) NB170_172.out _).trans (hHeld.1)))), ((cell_far (p := ⟨gb172, _, none⟩) NB170_172.out _).trans (((cell_far (p := ⟨gb172, _, none⟩) NB170_172.out _).trans (hHeld.2.1)))), ((cell_far (p := ⟨gb172, _, none⟩) NB171_172.out _).trans (((cell_far (p := ⟨gb172, _, none⟩) NB171_172.out _).trans (hHeld.2.2.1)))), ((cell_far (p := ⟨gb172, _, none⟩) NB171_172.out _).trans (((cell_far (p := ⟨gb172, _, none⟩) NB171_172.out _).trans (hHeld.2.2.2))))⟩ (fun hHeld => ?_)
    clear hK K
    refine one_ (i := 3) (N := none) #[true, true, true, true, false] rfl rfl (by kernel_rfl) (by decide) (fun K hK => ?_)
    have hs34 : w31.cell? ⟨gb173, 0, none⟩ = some (.int .u64 0) := (blk_cell BK173.out 0).trans rfl
    have hfs34 := blk_frozen BK173.out 0
    have hns34_0 := NB170_173.out
    have hns34_1 := NB171_173.out
    have hns34_2 := NB172_173.out
    have hms34_0 := NB173_170.out
    have hms34_1 := NB173_171.out
    have hms34_2 := NB173_172.out
    have hs35 : w31.cell? ⟨gb173, 1, none⟩ = some (.int .u64 0) := (blk_cell BK173.out 1).trans rfl
    have hfs35 := blk_frozen BK173.out 1
    have hns35_0 := NB170_173.out
    have hns35_1 := NB171_173.out
    have hns35_2 := NB172_173.out
    have hms35_0 := NB173_170.out
    have hms35_1 := NB173_171.out
    have hms35_2 := NB173_172.out
    refine skip_ (w1 := ?_) (by rfl) rfl ?_ ?_
    rotate_left
    ·
     go_simp
     rfl
    refine hK.out _ _ ⟨((cell_far (p := ⟨gb173, _, none⟩) NB170_173.out _).trans (((cell_far (p := ⟨gb173, _, none⟩) NB170_173.out _).trans (hHeld.1)))), ((cell_far (p := ⟨gb173, _, none⟩) NB170_173.out _).trans (((cell_far (p := ⟨gb173, _, none⟩) NB170_173.out _).trans (hHeld.2.1)))), ((cell_far (p := ⟨gb173, _, none⟩) NB171_173.out _).trans (((cell_far (p := ⟨gb173, _, none⟩) NB171_173.out _).trans (hHeld.2.2.1)))), ((cell_far (p := ⟨gb173, _, none⟩) NB171_173.out _).trans (((cell_far (p := ⟨gb173, _, none⟩) NB171_173.out _).trans (hHeld.2.2.2))))⟩ (fun hHeld => ?_)
    clear hK K
    refine pure_ (i := 4) (N := some 8) (v := ?_) (a' := ?_) #[true, true, true, true, true] rfl rfl (by kernel_rfl) (fun _ _ _ h => h) (Or.inl ⟨by rfl, ?_⟩) ?_ ?_
    rotate_left
    ·
     intro w'
     go_simp; with_reducible rfl
    rotate_left
    ·
     simp only [Act.put, List.setIfInBounds_toArray, List.set_cons_zero, List.set_cons_succ, i64_w, i32_w]
     rfl
    refine done_ (by kernel_rfl) ?_
    try go_wp2
    refine bodyPost_ret (results_list (rs := [.cell 6 58, .cell 7 58, .tmp 8]) rfl (by simp) (.cell gb172 58 #[.int .u64 a0_0, .int .u64 a0_1] (0, 0) _ rfl (by (with_reducible repeat (first | apply bN | apply bD | apply bA)); refine blk_far ?_ NB172_173.out _; (with_reducible repeat (first | apply bN | apply bD | apply bA)); refine blk_far ?_ NB172_173.out _; (with_reducible repeat (first | apply bN | apply bD | apply bA)); refine blk_put (cs := #[.int .u64 a0_0, .int .u64 0]) ?_ 1 _ rfl; (with_reducible repeat (first | apply bN | apply bD | apply bA)); refine blk_put (cs := #[.int .u64 0, .int .u64 0]) ?_ 0 _ rfl; (with_reducible repeat (first | apply bN | apply bD | apply bA)); exact BK172.out) Try.underlying58 rfl (by kernel_rfl) (.cell gb173 58 #[.int .u64 a1_0, .int .u64 a1_1] (0, 0) _ rfl (by (with_reducible repeat (first | apply bN | apply bD | apply bA)); refine blk_put (cs := #[.int .u64 a1_0, .int .u64 0]) ?_ 1 _ rfl; (with_reducible repeat (first | apply bN | apply bD | apply bA)); refine blk_put (cs := #[.int .u64 0, .int .u64 0]) ?_ 0 _ rfl; (with_reducible repeat (first | apply bN | apply bD | apply bA)); refine blk_far ?_ NB173_172.out _; (with_reducible repeat (first | apply bN | apply bD | apply bA)); refine blk_far ?_ NB173_172.out _; (with_reducible repeat (first | apply bN | apply bD | apply bA)); exact BK173.out) Try.underlying58 rfl (by kernel_rfl) (.tmp .nil)))) rfl ?_
    exact ⟨by first | rfl | (simp [errW_none, errW_some] <;> rfl) | (simp [*, errW_none, errW_some] <;> rfl), by repeat (first | (with_reducible first | exact HB.out | apply lA | apply lN | apply lD | refine lS ?_ ‹_›) | exact HB.out)⟩
   ·
    rw [if_neg c19] at H
    have c19b0 : decide (18446744073709551615 < a0_0) = false := decide_eq_false c19; clear c19
    obtain ⟨ji36, hji36⟩ : ∃ j_ : Int, (mn a0_1 (IntKind.u64.wrap (a1_1))) = j_ := ⟨_, rfl⟩
    replace H : (if a0_0 ≤ (ji36) then (some (a0_0, ji36, mx a1_0 (IntKind.u64.wrap (a0_0)), a1_1, decide ((mx a1_0 (IntKind.u64.wrap (a0_0))) ≤ a1_1))) else (some (a0_0, ji36, mx a1_0 (IntKind.u64.wrap (a0_0)), a1_1, false))) = some (r1, r2, r3, r4, r5) := by first | (rw [hji36] at H; exact H) | (simp only [hji36] at H ⊢; exact H)
    have hji36_ : (if (IntKind.u64.wrap (a1_1)) < a0_1 then (IntKind.u64.wrap (a1_1)) else a0_1) = ji36 := hji36
    obtain ⟨ji37, hji37⟩ : ∃ j_ : Int, (mx a1_0 (IntKind.u64.wrap (a0_0))) = j_ := ⟨_, rfl⟩
    replace H : (if a0_0 ≤ (ji36) then (some (a0_0, ji36, ji37, a1_1, decide ((ji37) ≤ a1_1))) else (some (a0_0, ji36, ji37, a1_1, false))) = some (r1, r2, r3, r4, r5) := by first | (rw [hji37] at H; exact H) | (simp only [hji37] at H ⊢; exact H)
    have hji37_ : (if a1_0 < (IntKind.u64.wrap (a0_0)) then (IntKind.u64.wrap (a0_0)) else a1_0) = ji37 := hji37
    by_cases c38 : a0_0 ≤ (ji36)
    ·
     rw [if_pos c38] at H
     have c38b0 : decide (a0_0 ≤ (ji36)) = true := decide_eq_true c38; clear c38; simp only [Option.some.injEq, Prod.mk.injEq] at H; obtain ⟨rfl, rfl, rfl, rfl, rfl⟩ := H
     go_enter Try.func64, Try.ntmps64
     try go_wp2_with (first | ((with_reducible refine gate_dst (N := 3) rfl ?_); refine box_event ?hg (N := 3) ?hd (cs := #[.int .u64 a0_0, .int .u64 a0_1]) (t := 58) ?hr ?_; (case hd => rfl); (case hg => rfl); (case hr => first | (go_simp; done) | (go_simp; rfl)); intro gb170 hg w39 hbox hb; have n0_ := Aside0.mk (below_step (by repeat (first | (with_reducible first | exact HB.out | apply lA | apply lN | apply lD) | exact HB.out)) hb); have n1_ := Aside0.mk (hbox); have n2_ := Aside0.mk ((by rw [hg]; exact (below_size (by repeat (first | (with_reducible first | exact HB.out | apply lA | apply lN | apply lD) | exact HB.out))) : w.heap.size ≤ gb170)); have n3_ := n2_; clear HB; have HB := n0_; have BK170 := n1_; have GW170 := n2_; have GE170 := n3_; clear n0_ n1_ n2_ n3_; clear hb hbox hg) | ((with_reducible refine gate_dst (N := 4) rfl ?_); refine box_event ?hg (N := 4) ?hd (cs := #[.int .u64 a1_0, .int .u64 a1_1]) (t := 58) ?hr ?_; (case hd => rfl); (case hg => rfl); (case hr => first | (go_simp; done) | (go_simp; rfl)); intro gb171 hg w40 hbox hb; have n0_ := Aside0.mk (blk_below (g := gb170) (o := .cells #[.int .u64 a0_0, .int .u64 a0_1] 58 (0, 0)) (by (with_reducible repeat (first | apply bN | apply bD | apply bA)); exact BK170.out) hb); have n1_ := Aside0.mk (below_step (by repeat (first | (with_reducible first | exact HB.out | apply lA | apply lN | apply lD | refine lS ?_ ‹_›) | exact HB.out)) hb); have n2_ := Aside0.mk (hbox); have n3_ := Aside0.mk ((by rw [hg]; exact (below_size (by repeat (first | (with_reducible first | exact HB.out | apply lA | apply lN | apply lD | refine lS ?_ ‹_›) | exact HB.out))) : w.heap.size ≤ gb171)); have n4_ := n3_; have n5_ := Aside0.mk ((by rw [hg]; exact Nat.ne_of_lt (blk_lt (g := gb170) (o := .cells #[.int .u64 a0_0, .int .u64 a0_1] 58 (0, 0)) (by (with_reducible repeat (first | apply bN | apply bD | apply bA)); exact BK170.out)) : gb170 ≠ gb171)); have n6_ := sy n5_; clear BK170; clear HB; have BK170 := n0_; have HB := n1_; have BK171 := n2_; have GW171 := n3_; have GE171 := n4_; have NB170_171 := n5_; have NB171_170 := n6_; clear n0_ n1_ n2_ n3_ n4_ n5_ n6_; clear hb hbox hg) | ((with_reducible refine gate_dst (N := 6) rfl ?_); refine box_event ?hg (N := 6) ?hd (cs := #[.int .u64 0, .int .u64 0]) (t := 58) ?hr ?_; (case hd => rfl); (case hg => rfl); (case hr => first | (go_simp; done) | (go_simp; rfl)); intro gb172 hg w41 hbox hb; have n0_ := Aside0.mk (blk_below (g := gb170) (o := .cells #[.int .u64 a0_0, .int .u64 a0_1] 58 (0, 0)) (by (with_reducible repeat (first | apply bN | apply bD | apply bA)); exact BK170.out) hb); have n1_ := Aside0.mk (blk_below (g := gb171) (o := .cells #[.int .u64 a1_0, .int .u64 a1_1] 58 (0, 0)) (by (with_reducible repeat (first | apply bN | apply bD | apply bA)); exact BK171.out) hb); have n2_ := Aside0.mk (below_step (by repeat (first | (with_reducible first | exact HB.out | apply lA | apply lN | apply lD | refine lS ?_ ‹_›) | exact HB.out)) hb); have n3_ := Aside0.mk (hbox); have n4_ := Aside0.mk ((by rw [hg]; exact (below_size (by repeat (first | (with_reducible first | exact HB.out | apply lA | apply lN | apply lD | refine lS ?_ ‹_›) | exact HB.out))) : w.heap.size ≤ gb172)); have n5_ := n4_; have n6_ := Aside0.mk ((by rw [hg]; exact Nat.ne_of_lt (blk_lt (g := gb170) (o := .cells #[.int .u64 a0_0, .int .u64 a0_1] 58 (0, 0)) (by (with_reducible repeat (first | apply bN | apply bD | apply bA)); exact BK170.out)) : gb170 ≠ gb172)); have n7_ := sy n6_; have n8_ := Aside0.mk ((by rw [hg]; exact Nat.ne_of_lt (blk_lt (g := gb171) (o := .cells #[.int .u64 a1_0, .int .u64 a1_1] 58 (0, 0)) (by (with_reducible repeat (first | apply bN | apply bD | apply bA)); exact BK171.out)) : gb171 ≠ gb172)); have n9_ := sy n8_; clear BK170; clear BK171; clear HB; have BK170 := n0_; have BK171 := n1_; have HB := n2_; have BK172 := n3_; have GW172 := n4_; have GE172 := n5_; have NB170_172 := n6_; have NB172_170 := n7_; have NB171_172 := n8_; have NB172_171 := n9_; clear n0_ n1_ n2_ n3_ n4_ n5_ n6_ n7_ n8_ n9_; clear hb hbox hg) | ((with_reducible refine gate_dst (N := 7) rfl ?_); refine box_event ?hg (N := 7) ?hd (cs := #[.int .u64 0, .int .u64 0]) (t := 58) ?hr ?_; (case hd => rfl); (case hg => rfl); (case hr => first | (go_simp; done) | (go_simp; rfl)); intro gb173 hg w42 hbox hb; have n0_ := Aside0.mk (blk_below (g := gb170) (o := .cells #[.int .u64 a0_0, .int .u64 a0_1] 58 (0, 0)) (by (with_reducible repeat (first | apply bN | apply bD | apply bA)); exact BK170.out) hb); have n1_ := Aside0.mk (blk_below (g := gb171) (o := .cells #[.int .u64 a1_0, .int .u64 a1_1] 58 (0, 0)) (by (with_reducible repeat (first | apply bN | apply bD | apply bA)); exact BK171.out) hb); have n2_ := Aside0.mk (blk_below (g := gb172) (o := .cells #[.int .u64 0, .int .u64 0] 58 (0, 0)) (by (with_reducible repeat (first | apply bN | apply bD | apply bA)); exact BK172.out) hb); have n3_ := Aside0.mk (below_step (by repeat (first | (with_reducible first | exact HB.out | apply lA | apply lN | apply lD | refine lS ?_ ‹_›) | exact HB.out)) hb); have n4_ := Aside0.mk (hbox); have n5_ := Aside0.mk ((by rw [hg]; exact (below_size (by repeat (first | (with_reducible first | exact HB.out | apply lA | apply lN | apply lD | refine lS ?_ ‹_›) | exact HB.out))) : w.heap.size ≤ gb173)); have n6_ := n5_; have n7_ := Aside0.mk ((by rw [hg]; exact Nat.ne_of_lt (blk_lt (g := gb170) (o := .cells #[.int .u64 a0_0, .int .u64 a0_1] 58 (0, 0)) (by (with_reducible repeat (first | apply bN | apply bD | apply bA)); exact BK170.out)) : gb170 ≠ gb173)); have n8_ := sy n7_; have n9_ := Aside0.mk ((by rw [hg]; exact Nat.ne_of_lt (blk_lt (g := gb171) (o := .cells #[.int .u64 a1_0, .int .u64 a1_1] 58 (0, 0)) (by (with_reducible repeat (first | apply bN | apply bD | apply bA)); exact BK171.out)) : gb171 ≠ gb173)); have n10_ := sy n9_; have n11_ := Aside0.mk ((by rw [hg]; exact Nat.ne_of_lt (blk_lt (g := gb172) (o := .cells #[.int .u64 0, .int .u64 0] 58 (0, 0)) (by (with_reducible repeat (first | apply bN | apply bD | apply bA)); exact BK172.out)) : gb172 ≠ gb173)); have n12_ := sy n11_; clear BK170; clear BK171; clear BK172; clear HB; have BK170 := n0_; have BK171 := n1_; have BK172 := n2_; have HB := n3_; have BK173 := n4_; have GW173 := n5_; have GE173 := n6_; have NB170_173 := n7_; have NB173_170 := n8_; have NB171_173 := n9_; have NB173_171 := n10_; have NB172_173 := n11_; have NB173_172 := n12_; clear n0_ n1_ n2_ n3_ n4_ n5_ n6_ n7_ n8_ n9_ n10_ n11_ n12_; clear hb hbox hg; have hnb43 := NB171_170.out; have hnc43 := NB170_171.out; have hnb44 := NB171_172.out; have hnc44 := NB172_171.out; have hnb45 := NB171_173.out; have hnc45 := NB173_171.out; have hcz46_0 : w42.cell? ⟨gb171, 0, none⟩ = some (.int .u64 a1_0) := (blk_cell BK171.out 0).trans rfl; have hcz46_1 : w42.cell? ⟨gb171, 1, none⟩ = some (.int .u64 a1_1) := (blk_cell BK171.out 1).trans rfl; have hfz46_0 := blk_frozen BK171.out 0; have hfz46_1 := blk_frozen BK171.out 1; have hnb47 := NB170_172.out; have hnc47 := NB172_170.out; have hnb48 := NB170_173.out; have hnc48 := NB173_170.out; have hcz49_0 : w42.cell? ⟨gb170, 0, none⟩ = some (.int .u64 a0_0) := (blk_cell BK170.out 0).trans rfl; have hcz49_1 : w42.cell? ⟨gb170, 1, none⟩ = some (.int .u64 a0_1) := (blk_cell BK170.out 1).trans rfl; have hfz49_0 := blk_frozen BK170.out 0; have hfz49_1 := blk_frozen BK170.out 1))
     have n0_ : Aside0 (((w42.setCell ⟨gb170, 1, none⟩ (.int .u64 ji36)).setCell ⟨gb171, 0, none⟩ (.int .u64 ji37)).heap[gb170]? = some (.cells #[.int .u64 a0_0, .int .u64 ji36] 58 (0, 0))) := ⟨by (with_reducible repeat (first | apply bN | apply bD | apply bA)); refine blk_far ?_ NB170_171.out _; (with_reducible repeat (first | apply bN | apply bD | apply bA)); refine blk_put (cs := #[.int .u64 a0_0, .int .u64 a0_1]) ?_ 1 _ rfl; (with_reducible repeat (first | apply bN | apply bD | apply bA)); exact BK170.out⟩
     have n1_ : Aside0 (((w42.setCell ⟨gb170, 1, none⟩ (.int .u64 ji36)).setCell ⟨gb171, 0, none⟩ (.int .u64 ji37)).heap[gb171]? = some (.cells #[.int .u64 ji37, .int .u64 a1_1] 58 (0, 0))) := ⟨by (with_reducible repeat (first | apply bN | apply bD | apply bA)); refine blk_put (cs := #[.int .u64 a1_0, .int .u64 a1_1]) ?_ 0 _ rfl; (with_reducible repeat (first | apply bN | apply bD | apply bA)); refine blk_far ?_ NB171_170.out _; (with_reducible repeat (first | apply bN | apply bD | apply bA)); exact BK171.out⟩
     have n2_ : Aside0 (((w42.setCell ⟨gb170, 1, none⟩ (.int .u64 ji36)).setCell ⟨gb171, 0, none⟩ (.int .u64 ji37)).heap[gb172]? = some (.cells #[.int .u64 0, .int .u64 0] 58 (0, 0))) := ⟨by (with_reducible repeat (first | apply bN | apply bD | apply bA)); refine blk_far ?_ NB172_171.out _; (with_reducible repeat (first | apply bN | apply bD | apply bA)); refine blk_far ?_ NB172_170.out _; (with_reducible repeat (first | apply bN | apply bD | apply bA)); exact BK172.out⟩
     have n3_ : Aside0 (((w42.setCell ⟨gb170, 1, none⟩ (.int .u64 ji36)).setCell ⟨gb171, 0, none⟩ (.int .u64 ji37)).heap[gb173]? = some (.cells #[.int .u64 0, .int .u64 0] 58 (0, 0))) := ⟨by (with_reducible repeat (first | apply bN | apply bD | apply bA)); refine blk_far ?_ NB173_171.out _; (with_reducible repeat (first | apply bN | apply bD | apply bA)); refine blk_far ?_ NB173_170.out _; (with_reducible repeat (first | apply bN | apply bD | apply bA)); exact BK173.out⟩
     have n4_ : Aside0 (Below w.heap.size w ((w42.setCell ⟨gb170, 1, none⟩ (.int .u64 ji36)).setCell ⟨gb171, 0, none⟩ (.int .u64 ji37))) := ⟨by repeat (first | (with_reducible first | exact HB.out | apply lA | apply lN | apply lD | refine lS ?_ ‹_›) | exact HB.out)⟩
     (try clear BK170)
     (try clear BK171)
     (try clear BK172)
     (try clear BK173)
     (try clear HB)
     generalize ((w42.setCell ⟨gb170, 1, none⟩ (.int .u64 ji36)).setCell ⟨gb171, 0, none⟩ (.int .u64 ji37)) = w50 at n0_ n1_ n2_ n3_ n4_ ⊢
     have BK170 := n0_; have BK171 := n1_; have BK172 := n2_; have BK173 := n3_; have HB := n4_; clear n0_ n1_ n2_ n3_ n4_; have n0_ := Aside0.mk (blk_drew BK170.out); have n1_ := Aside0.mk (blk_drew BK171.out); have n2_ := Aside0.mk (blk_drew BK172.out); have n3_ := Aside0.mk (blk_drew BK173.out)
     have n4_ := Aside0.mk (below_drew1 HB.out)
     clear BK170; clear BK171; clear BK172; clear BK173; clear HB; have BK170 := n0_; have BK171 := n1_; have BK172 := n2_; have BK173 := n3_; have HB := n4_; clear n0_ n1_ n2_ n3_ n4_
     refine start_ (n := 17) (S := fun w' => w'.cell? ⟨gb170, 0, none⟩ = some (.int .u64 a0_0) ∧ w'.cell? ⟨gb170, 1, none⟩ = some (.int .u64 ji36) ∧ w'.cell? ⟨gb171, 0, none⟩ = some (.int .u64 ji37) ∧ w'.cell? ⟨gb171, 1, none⟩ = some (.int .u64 a1_1)) (ds := []) #[false, false, false, false, false, false, false, false, false, false, false, false, false, false, false, false, false] (by kernel_rfl) rfl rfl ⟨(blk_cell BK170.out 0).trans rfl, (blk_cell BK170.out 1).trans rfl, (blk_cell BK171.out 0).trans rfl, (blk_cell BK171.out 1).trans rfl⟩ (fun hHeld => ?_); refine with_tabW span_less.tab8 span_less.bits8 (fun HT_ HW_ => ?_)
     generalize w50.drew = w51 at BK170 BK171 BK172 BK173 HB hHeld ⊢
     refine pure_ (i := 2) (N := some 42) (v := ?_) (a' := ?_) #[false, false, true, false, false, false, false, false, false, false, false, false, false, false, false, false, false] rfl rfl (any_of HT_.out (by kernel_rfl)) (fun _ _ _ h => h) (Or.inl ⟨by rfl, ?_⟩) ?_ ?_
     rotate_left
     ·
      intro w'
      go_simp; with_reducible rfl
     rotate_left
     ·
      simp only [Act.put, List.setIfInBounds_toArray, List.set_cons_zero, List.set_cons_succ, i64_w, i32_w]
      rfl
     refine pure_ (i := 4) (N := some 44) (v := ?_) (a' := ?_) #[false, false, true, false, true, false, false, false, false, false, false, false, false, false, false, false, false] rfl rfl (any_of HT_.out (by kernel_rfl)) (fun _ _ _ h => h) (Or.inl ⟨by rfl, ?_⟩) ?_ ?_
     rotate_left
     ·
      intro w'
      go_simp; with_reducible rfl
     rotate_left
     ·
      simp only [Act.put, List.setIfInBounds_toArray, List.set_cons_zero, List.set_cons_succ, i64_w, i32_w]
      rfl
     refine take_ (i := 0) (N := some 40) (v := ?_) (a' := ?_) #[true, false, true, false, true, false, false, false, false, false, false, false, false, false, false, false, false] rfl rfl (take_ofW HT_.out HW_.out (by kernel_rfl)) (fun _ _ _ h => h) (Or.inl ⟨by rfl, ?_⟩) hHeld ?_ ?_
     rotate_left
     ·
      rintro w' ⟨s0, s1, s2, s3⟩
      go_simp; with_reducible rfl
     rotate_left
     ·
      simp only [Act.put, List.setIfInBounds_toArray, List.set_cons_zero, List.set_cons_succ, i64_w, i32_w]
      rfl
     refine take_ (i := 1) (N := some 41) (v := ?_) (a' := ?_) #[true, true, true, false, true, false, false, false, false, false, false, false, false, false, false, false, false] rfl rfl (take_ofW HT_.out HW_.out (by kernel_rfl)) (fun _ _ _ h => h) (Or.inl ⟨by rfl, ?_⟩) hHeld ?_ ?_
     rotate_left
     ·
      rintro w' ⟨s0, s1, s2, s3⟩
      go_simp; with_reducible rfl
     rotate_left
     ·
      simp only [Act.put, List.setIfInBounds_toArray, List.set_cons_zero, List.set_cons_succ, i64_w, i32_w]
      rfl
     refine take_ (i := 3) (N := some 43) (v := ?_) (a' := ?_) #[true, true, true, true, true, false, false, false, false, false, false, false, false, false, false, false, false] rfl rfl (take_ofW HT_.out HW_.out (by kernel_rfl)) (fun _ _ _ h => h) (Or.inl ⟨by rfl, ?_⟩) hHeld ?_ ?_
     rotate_left
     ·
      rintro w' ⟨s0, s1, s2, s3⟩
      go_simp; with_reducible rfl
     rotate_left
     ·
      simp only [Act.put, List.setIfInBounds_toArray, List.set_cons_zero, List.set_cons_succ, i64_w, i32_w]
      rfl
     refine take_ (i := 5) (N := some 45) (v := ?_) (a' := ?_) #[true, true, true, true, true, true, false, false, false, false, false, false, false, false, false, false, false] rfl rfl (take_ofW HT_.out HW_.out (by kernel_rfl)) (fun _ _ _ h => h) (Or.inl ⟨by rfl, ?_⟩) hHeld ?_ ?_
     rotate_left
     ·
      rintro w' ⟨s0, s1, s2, s3⟩
      go_simp; with_reducible rfl
     rotate_left
     ·
      simp only [Act.put, List.setIfInBounds_toArray, List.set_cons_zero, List.set_cons_succ, i64_w, i32_w]
      rfl
     refine pure_ (i := 6) (N := some 46) (v := ?_) (a' := ?_) #[true, true, true, true, true, true, true, false, false, false, false, false, false, false, false, false, false] rfl rfl (any_of HT_.out (by kernel_rfl)) (fun _ _ _ h => h) (Or.inl ⟨by rfl, ?_⟩) ?_ ?_
     rotate_left
     ·
      intro w'
      go_simp; with_reducible rfl
     rotate_left
     ·
      simp only [Act.put, List.setIfInBounds_toArray, List.set_cons_zero, List.set_cons_succ, i64_w, i32_w]
      rfl
     refine pure_ (i := 7) (N := some 47) (v := ?_) (a' := ?_) #[true, true, true, true, true, true, true, true, false, false, false, false, false, false, false, false, false] rfl rfl (any_of HT_.out (by kernel_rfl)) (fun _ _ _ h => h) (Or.inl ⟨by rfl, ?_⟩) ?_ ?_
     rotate_left
     ·
      intro w'
      go_simp; with_reducible rfl
     rotate_left
     ·
      simp only [Act.put, List.setIfInBounds_toArray, List.set_cons_zero, List.set_cons_succ, i64_w, i32_w]
      rfl
     refine pure_ (i := 8) (N := some 48) (v := ?_) (a' := ?_) #[true, true, true, true, true, true, true, true, true, false, false, false, false, false, false, false, false] rfl rfl (any_of HT_.out (by kernel_rfl)) (fun _ _ _ h => h) (Or.inl ⟨by rfl, ?_⟩) ?_ ?_
     rotate_left
     ·
      intro w'
      go_simp; with_reducible rfl
     rotate_left
     ·
      simp only [Act.put, List.setIfInBounds_toArray, List.set_cons_zero, List.set_cons_succ, i64_w, i32_w]
      rfl
     refine pure_ (i := 10) (N := some 50) (v := ?_) (a' := ?_) #[true, true, true, true, true, true, true, true, true, false, true, false, false, false, false, false, false] rfl rfl (any_of HT_.out (by kernel_rfl)) (fun _ _ _ h => h) (Or.inl ⟨by rfl, ?_⟩) ?_ ?_
     rotate_left
     ·
      intro w'
      go_simp; with_reducible rfl
     rotate_left
     ·
      simp only [Act.put, List.setIfInBounds_toArray, List.set_cons_zero, List.set_cons_succ, i64_w, i32_w]
      rfl
     refine take_ (i := 9) (N := some 49) (v := ?_) (a' := ?_) #[true, true, true, true, true, true, true, true, true, true, true, false, false, false, false, false, false] rfl rfl (take_ofW HT_.out HW_.out (by kernel_rfl)) (fun _ _ _ h => h) (Or.inl ⟨by rfl, ?_⟩) hHeld ?_ ?_
     rotate_left
     ·
      rintro w' ⟨s0, s1, s2, s3⟩
      go_simp; with_reducible rfl
     rotate_left
     ·
      simp only [Act.put, List.setIfInBounds_toArray, List.set_cons_zero, List.set_cons_succ, i64_w, i32_w]
      rfl
     refine take_ (i := 11) (N := some 51) (v := ?_) (a' := ?_) #[true, true, true, true, true, true, true, true, true, true, true, true, false, false, false, false, false] rfl rfl (take_ofW HT_.out HW_.out (by kernel_rfl)) (fun _ _ _ h => h) (Or.inl ⟨by rfl, ?_⟩) hHeld ?_ ?_
     rotate_left
     ·
      rintro w' ⟨s0, s1, s2, s3⟩
      go_simp; with_reducible rfl
     rotate_left
     ·
      simp only [Act.put, List.setIfInBounds_toArray, List.set_cons_zero, List.set_cons_succ, i64_w, i32_w]
      rfl
     refine pure_ (i := 12) (N := some 52) (v := ?_) (a' := ?_) #[true, true, true, true, true, true, true, true, true, true, true, true, true, false, false, false, false] rfl rfl (any_of HT_.out (by kernel_rfl)) (fun _ _ _ h => h) (Or.inl ⟨by rfl, ?_⟩) ?_ ?_
     rotate_left
     ·
      intro w'
      go_simp; with_reducible rfl
     rotate_left
     ·
      simp only [Act.put, List.setIfInBounds_toArray, List.set_cons_zero, List.set_cons_succ, i64_w, i32_w]
      rfl
     refine pure_ (i := 13) (N := some 53) (v := ?_) (a' := ?_) #[true, true, true, true, true, true, true, true, true, true, true, true, true, true, false, false, false] rfl rfl (any_of HT_.out (by kernel_rfl)) (fun _ _ _ h => h) (Or.inl ⟨by rfl, ?_⟩) ?_ ?_
     rotate_left
     ·
      intro w'
      go_simp; with_reducible rfl
     rotate_left
     ·
      simp only [Act.put, List.setIfInBounds_toArray, List.set_cons_zero, List.set_cons_succ, i64_w, i32_w]
      rfl
     refine one_ (i := 14) (N := none) #[true, true, true, true, true, true, true, true, true, true, true, true, true, true, true, false, false] rfl rfl (one_of HT_.out (by kernel_rfl)) (by decide) (fun K hK => ?_)
     have hs52 : w51.cell? ⟨gb172, 0, none⟩ = some (.int .u64 0) := (blk_cell BK172.out 0).trans rfl
     have hfs52 := blk_frozen BK172.out 0
     have hns52_0 := NB170_172.out
     have hns52_1 := NB171_172.out
     have hns52_3 := NB173_172.out
     have hms52_0 := NB172_170.out
     have hms52_1 := NB172_171.out
     have hms52_3 := NB172_173.out
     have hs53 : w51.cell? ⟨gb172, 1, none⟩ = some (.int .u64 0) := (blk_cell BK172.out 1).trans rfl
     have hfs53 := blk_frozen BK172.out 1
     have hns53_0 := NB170_172.out
     have hns53_1 := NB171_172.out
     have hns53_3 := NB173_172.out
     have hms53_0 := NB172_170.out
     have hms53_1 := NB172_171.out
     have hms53_3 := NB172_173.out
     refine skip_ (w1 := ?_) (by rfl) rfl ?_ ?_
     rotate_left
     ·
      go_simp
      rfl
     refine hK.out _ _ ⟨((cell_far (p := ⟨gb172, _, none⟩) NB170_172.out _).trans (((cell_far (p := ⟨gb172, _, none⟩) NB170_172.out _).trans (hHeld.1)))), ((cell_far (p := ⟨gb172, _, none⟩) NB170_172.out _).trans (((cell_far (p := ⟨gb172, _, none⟩) NB170_172.out _).trans (hHeld.2.1)))), ((cell_far (p := ⟨gb172, _, none⟩) NB171_172.out _).trans (((cell_far (p := ⟨gb172, _, none⟩) NB171_172.out _).trans (hHeld.2.2.1)))), ((cell_far (p := ⟨gb172, _, none⟩) NB171_172.out _).trans (((cell_far (p := ⟨gb172, _, none⟩) NB171_172.out _).trans (hHeld.2.2.2))))⟩ (fun hHeld => ?_)
     clear hK K
     refine one_ (i := 15) (N := none) #[true, true, true, true, true, true, true, true, true, true, true, true, true, true, true, true, false] rfl rfl (one_of HT_.out (by kernel_rfl)) (by decide) (fun K hK => ?_)
     have hs54 : w51.cell? ⟨gb173, 0, none⟩ = some (.int .u64 0) := (blk_cell BK173.out 0).trans rfl
     have hfs54 := blk_frozen BK173.out 0
     have hns54_0 := NB170_173.out
     have hns54_1 := NB171_173.out
     have hns54_2 := NB172_173.out
     have hms54_0 := NB173_170.out
     have hms54_1 := NB173_171.out
     have hms54_2 := NB173_172.out
     have hs55 : w51.cell? ⟨gb173, 1, none⟩ = some (.int .u64 0) := (blk_cell BK173.out 1).trans rfl
     have hfs55 := blk_frozen BK173.out 1
     have hns55_0 := NB170_173.out
     have hns55_1 := NB171_173.out
     have hns55_2 := NB172_173.out
     have hms55_0 := NB173_170.out
     have hms55_1 := NB173_171.out
     have hms55_2 := NB173_172.out
     refine skip_ (w1 := ?_) (by rfl) rfl ?_ ?_
     rotate_left
     ·
      go_simp
      rfl
     refine hK.out _ _ ⟨((cell_far (p := ⟨gb173, _, none⟩) NB170_173.out _).trans (((cell_far (p := ⟨gb173, _, none⟩) NB170_173.out _).trans (hHeld.1)))), ((cell_far (p := ⟨gb173, _, none⟩) NB170_173.out _).trans (((cell_far (p := ⟨gb173, _, none⟩) NB170_173.out _).trans (hHeld.2.1)))), ((cell_far (p := ⟨gb173, _, none⟩) NB171_173.out _).trans (((cell_far (p := ⟨gb173, _, none⟩) NB171_173.out _).trans (hHeld.2.2.1)))), ((cell_far (p := ⟨gb173, _, none⟩) NB171_173.out _).trans (((cell_far (p := ⟨gb173, _, none⟩) NB171_173.out _).trans (hHeld.2.2.2))))⟩ (fun hHeld => ?_)
     clear hK K
     refine pure_ (i := 16) (N := some 8) (v := ?_) (a' := ?_) #[true, true, true, true, true, true, true, true, true, true, true, true, true, true, true, true, true] rfl rfl (any_of HT_.out (by kernel_rfl)) (fun _ _ _ h => h) (Or.inl ⟨by rfl, ?_⟩) ?_ ?_
     rotate_left
     ·
      intro w'
      go_simp; with_reducible rfl
     rotate_left
     ·
      simp only [Act.put, List.setIfInBounds_toArray, List.set_cons_zero, List.set_cons_succ, i64_w, i32_w]
      rfl
     refine done_ (done_of HT_.out (by kernel_rfl)) ?_
     try go_wp2
     refine bodyPost_ret (results_list (rs := [.cell 6 58, .cell 7 58, .tmp 8]) rfl (by simp) (.cell gb172 58 #[.int .u64 a0_0, .int .u64 ji36] (0, 0) _ rfl (by (with_reducible repeat (first | apply bN | apply bD | apply bA)); refine blk_far ?_ NB172_173.out _; (with_reducible repeat (first | apply bN | apply bD | apply bA)); refine blk_far ?_ NB172_173.out _; (with_reducible repeat (first | apply bN | apply bD | apply bA)); refine blk_put (cs := #[.int .u64 a0_0, .int .u64 0]) ?_ 1 _ rfl; (with_reducible repeat (first | apply bN | apply bD | apply bA)); refine blk_put (cs := #[.int .u64 0, .int .u64 0]) ?_ 0 _ rfl; (with_reducible repeat (first | apply bN | apply bD | apply bA)); exact BK172.out) Try.underlying58 rfl (by kernel_rfl) (.cell gb173 58 #[.int .u64 ji37, .int .u64 a1_1] (0, 0) _ rfl (by (with_reducible repeat (first | apply bN | apply bD | apply bA)); refine blk_put (cs := #[.int .u64 ji37, .int .u64 0]) ?_ 1 _ rfl; (with_reducible repeat (first | apply bN | apply bD | apply bA)); refine blk_put (cs := #[.int .u64 0, .int .u64 0]) ?_ 0 _ rfl; (with_reducible repeat (first | apply bN | apply bD | apply bA)); refine blk_far ?_ NB173_172.out _; (with_reducible repeat (first | apply bN | apply bD | apply bA)); refine blk_far ?_ NB173_172.out _; (with_reducible repeat (first | apply bN | apply bD | apply bA)); exact BK173.out) Try.underlying58 rfl (by kernel_rfl) (.tmp .nil)))) rfl ?_
     exact ⟨by first | rfl | (simp [errW_none, errW_some] <;> rfl) | (simp only [← hji36, ← hji37]; first | rfl | (simp [errW_none, errW_some] <;> rfl)) | (simp [*, errW_none, errW_some] <;> rfl), by repeat (first | (with_reducible first | exact HB.out | apply lA | apply lN | apply lD | refine lS ?_ ‹_›) | exact HB.out)⟩
    ·
     rw [if_neg c38] at H
     have c38b0 : decide (a0_0 ≤ (ji36)) = false := decide_eq_false c38; clear c38; simp only [Option.some.injEq, Prod.mk.injEq] at H; obtain ⟨rfl, rfl, rfl, rfl, rfl⟩ := H
     go_enter Try.func64, Try.ntmps64
     try go_wp2_with (first | ((with_reducible refine gate_dst (N := 3) rfl ?_); refine box_event ?hg (N := 3) ?hd (cs := #[.int .u64 a0_0, .int .u64 a0_1]) (t := 58) ?hr ?_; (case hd => rfl); (case hg => rfl); (case hr => first | (go_simp; done) | (go_simp; rfl)); intro gb170 hg w56 hbox hb; have n0_ := Aside0.mk (below_step (by repeat (first | (with_reducible first | exact HB.out | apply lA | apply lN | apply lD) | exact HB.out)) hb); have n1_ := Aside0.mk (hbox); have n2_ := Aside0.mk ((by rw [hg]; exact (below_size (by repeat (first | (with_reducible first | exact HB.out | apply lA | apply lN | apply lD) | exact HB.out))) : w.heap.size ≤ gb170)); have n3_ := n2_; clear HB; have HB := n0_; have BK170 := n1_; have GW170 := n2_; have GE170 := n3_; clear n0_ n1_ n2_ n3_; clear hb hbox hg) | ((with_reducible refine gate_dst (N := 4) rfl ?_); refine box_event ?hg (N := 4) ?hd (cs := #[.int .u64 a1_0, .int .u64 a1_1]) (t := 58) ?hr ?_; (case hd => rfl); (case hg => rfl); (case hr => first | (go_simp; done) | (go_simp; rfl)); intro gb171 hg w57 hbox hb; have n0_ := Aside0.mk (blk_below (g := gb170) (o := .cells #[.int .u64 a0_0, .int .u64 a0_1] 58 (0, 0)) (by (with_reducible repeat (first | apply bN | apply bD | apply bA)); exact BK170.out) hb); have n1_ := Aside0.mk (below_step (by repeat (first | (with_reducible first | exact HB.out | apply lA | apply lN | apply lD | refine lS ?_ ‹_›) | exact HB.out)) hb); have n2_ := Aside0.mk (hbox); have n3_ := Aside0.mk ((by rw [hg]; exact (below_size (by repeat (first | (with_reducible first | exact HB.out | apply lA | apply lN | apply lD | refine lS ?_ ‹_›) | exact HB.out))) : w.heap.size ≤ gb171)); have n4_ := n3_; have n5_ := Aside0.mk ((by rw [hg]; exact Nat.ne_of_lt (blk_lt (g := gb170) (o := .cells #[.int .u64 a0_0, .int .u64 a0_1] 58 (0, 0)) (by (with_reducible repeat (first | apply bN | apply bD | apply bA)); exact BK170.out)) : gb170 ≠ gb171)); have n6_ := sy n5_; clear BK170; clear HB; have BK170 := n0_; have HB := n1_; have BK171 := n2_; have GW171 := n3_; have GE171 := n4_; have NB170_171 := n5_; have NB171_170 := n6_; clear n0_ n1_ n2_ n3_ n4_ n5_ n6_; clear hb hbox hg) | ((with_reducible refine gate_dst (N := 6) rfl ?_); refine box_event ?hg (N := 6) ?hd (cs := #[.int .u64 0, .int .u64 0]) (t := 58) ?hr ?_; (case hd => rfl); (case hg => rfl); (case hr => first | (go_simp; done) | (go_simp; rfl)); intro gb172 hg w58 hbox hb; have n0_ := Aside0.mk (blk_below (g := gb170) (o := .cells #[.int .u64 a0_0, .int .u64 a0_1] 58 (0, 0)) (by (with_reducible repeat (first | apply bN | apply bD | apply bA)); exact BK170.out) hb); have n1_ := Aside0.mk (blk_below (g := gb171) (o := .cells #[.int .u64 a1_0, .int .u64 a1_1] 58 (0, 0)) (by (with_reducible repeat (first | apply bN | apply bD | apply bA)); exact BK171.out) hb); have n2_ := Aside0.mk (below_step (by repeat (first | (with_reducible first | exact HB.out | apply lA | apply lN | apply lD | refine lS ?_ ‹_›) | exact HB.out)) hb); have n3_ := Aside0.mk (hbox); have n4_ := Aside0.mk ((by rw [hg]; exact (below_size (by repeat (first | (with_reducible first | exact HB.out | apply lA | apply lN | apply lD | refine lS ?_ ‹_›) | exact HB.out))) : w.heap.size ≤ gb172)); have n5_ := n4_; have n6_ := Aside0.mk ((by rw [hg]; exact Nat.ne_of_lt (blk_lt (g := gb170) (o := .cells #[.int .u64 a0_0, .int .u64 a0_1] 58 (0, 0)) (by (with_reducible repeat (first | apply bN | apply bD | apply bA)); exact BK170.out)) : gb170 ≠ gb172)); have n7_ := sy n6_; have n8_ := Aside0.mk ((by rw [hg]; exact Nat.ne_of_lt (blk_lt (g := gb171) (o := .cells #[.int .u64 a1_0, .int .u64 a1_1] 58 (0, 0)) (by (with_reducible repeat (first | apply bN | apply bD | apply bA)); exact BK171.out)) : gb171 ≠ gb172)); have n9_ := sy n8_; clear BK170; clear BK171; clear HB; have BK170 := n0_; have BK171 := n1_; have HB := n2_; have BK172 := n3_; have GW172 := n4_; have GE172 := n5_; have NB170_172 := n6_; have NB172_170 := n7_; have NB171_172 := n8_; have NB172_171 := n9_; clear n0_ n1_ n2_ n3_ n4_ n5_ n6_ n7_ n8_ n9_; clear hb hbox hg) | ((with_reducible refine gate_dst (N := 7) rfl ?_); refine box_event ?hg (N := 7) ?hd (cs := #[.int .u64 0, .int .u64 0]) (t := 58) ?hr ?_; (case hd => rfl); (case hg => rfl); (case hr => first | (go_simp; done) | (go_simp; rfl)); intro gb173 hg w59 hbox hb; have n0_ := Aside0.mk (blk_below (g := gb170) (o := .cells #[.int .u64 a0_0, .int .u64 a0_1] 58 (0, 0)) (by (with_reducible repeat (first | apply bN | apply bD | apply bA)); exact BK170.out) hb); have n1_ := Aside0.mk (blk_below (g := gb171) (o := .cells #[.int .u64 a1_0, .int .u64 a1_1] 58 (0, 0)) (by (with_reducible repeat (first | apply bN | apply bD | apply bA)); exact BK171.out) hb); have n2_ := Aside0.mk (blk_below (g := gb172) (o := .cells #[.int .u64 0, .int .u64 0] 58 (0, 0)) (by (with_reducible repeat (first | apply bN | apply bD | apply bA)); exact BK172.out) hb); have n3_ := Aside0.mk (below_step (by repeat (first | (with_reducible first | exact HB.out | apply lA | apply lN | apply lD | refine lS ?_ ‹_›) | exact HB.out)) hb); have n4_ := Aside0.mk (hbox); have n5_ := Aside0.mk ((by rw [hg]; exact (below_size (by repeat (first | (with_reducible first | exact HB.out | apply lA | apply lN | apply lD | refine lS ?_ ‹_›) | exact HB.out))) : w.heap.size ≤ gb173)); have n6_ := n5_; have n7_ := Aside0.mk ((by rw [hg]; exact Nat.ne_of_lt (blk_lt (g := gb170) (o := .cells #[.int .u64 a0_0, .int .u64 a0_1] 58 (0, 0)) (by (with_reducible repeat (first | apply bN | apply bD | apply bA)); exact BK170.out)) : gb170 ≠ gb173)); have n8_ := sy n7_; have n9_ := Aside0.mk ((by rw [hg]; exact Nat.ne_of_lt (blk_lt (g := gb171) (o := .cells #[.int .u64 a1_0, .int .u64 a1_1] 58 (0, 0)) (by (with_reducible repeat (first | apply bN | apply bD | apply bA)); exact BK171.out)) : gb171 ≠ gb173)); have n10_ := sy n9_; have n11_ := Aside0.mk ((by rw [hg]; exact Nat.ne_of_lt (blk_lt (g := gb172) (o := .cells #[.int .u64 0, .int .u64 0] 58 (0, 0)) (by (with_reducible repeat (first | apply bN | apply bD | apply bA)); exact BK172.out)) : gb172 ≠ gb173)); have n12_ := sy n11_; clear BK170; clear BK171; clear BK172; clear HB; have BK170 := n0_; have BK171 := n1_; have BK172 := n2_; have HB := n3_; have BK173 := n4_; have GW173 := n5_; have GE173 := n6_; have NB170_173 := n7_; have NB173_170 := n8_; have NB171_173 := n9_; have NB173_171 := n10_; have NB172_173 := n11_; have NB173_172 := n12_; clear n0_ n1_ n2_ n3_ n4_ n5_ n6_ n7_ n8_ n9_ n10_ n11_ n12_; clear hb hbox hg; have hnb60 := NB171_170.out; have hnc60 := NB170_171.out; have hnb61 := NB171_172.out; have hnc61 := NB172_171.out; have hnb62 := NB171_173.out; have hnc62 := NB173_171.out; have hcz63_0 : w59.cell? ⟨gb171, 0, none⟩ = some (.int .u64 a1_0) := (blk_cell BK171.out 0).trans rfl; have hcz63_1 : w59.cell? ⟨gb171, 1, none⟩ = some (.int .u64 a1_1) := (blk_cell BK171.out 1).trans rfl; have hfz63_0 := blk_frozen BK171.out 0; have hfz63_1 := blk_frozen BK171.out 1; have hnb64 := NB170_172.out; have hnc64 := NB172_170.out; have hnb65 := NB170_173.out; have hnc65 := NB173_170.out; have hcz66_0 : w59.cell? ⟨gb170, 0, none⟩ = some (.int .u64 a0_0) := (blk_cell BK170.out 0).trans rfl; have hcz66_1 : w59.cell? ⟨gb170, 1, none⟩ = some (.int .u64 a0_1) := (blk_cell BK170.out 1).trans rfl; have hfz66_0 := blk_frozen BK170.out 0; have hfz66_1 := blk_frozen BK170.out 1))
     have n0_ : Aside0 (((w59.setCell ⟨gb170, 1, none⟩ (.int .u64 ji36)).setCell ⟨gb171, 0, none⟩ (.int .u64 ji37)).heap[gb170]? = some (.cells #[.int .u64 a0_0, .int .u64 ji36] 58 (0, 0))) := ⟨by (with_reducible repeat (first | apply bN | apply bD | apply bA)); refine blk_far ?_ NB170_171.out _; (with_reducible repeat (first | apply bN | apply bD | apply bA)); refine blk_put (cs := #[.int .u64 a0_0, .int .u64 a0_1]) ?_ 1 _ rfl; (with_reducible repeat (first | apply bN | apply bD | apply bA)); exact BK170.out⟩
     have n1_ : Aside0 (((w59.setCell ⟨gb170, 1, none⟩ (.int .u64 ji36)).setCell ⟨gb171, 0, none⟩ (.int .u64 ji37)).heap[gb171]? = some (.cells #[.int .u64 ji37, .int .u64 a1_1] 58 (0, 0))) := ⟨by (with_reducible repeat (first | apply bN | apply bD | apply bA)); refine blk_put (cs := #[.int .u64 a1_0, .int .u64 a1_1]) ?_ 0 _ rfl; (with_reducible repeat (first | apply bN | apply bD | apply bA)); refine blk_far ?_ NB171_170.out _; (with_reducible repeat (first | apply bN | apply bD | apply bA)); exact BK171.out⟩
     have n2_ : Aside0 (((w59.setCell ⟨gb170, 1, none⟩ (.int .u64 ji36)).setCell ⟨gb171, 0, none⟩ (.int .u64 ji37)).heap[gb172]? = some (.cells #[.int .u64 0, .int .u64 0] 58 (0, 0))) := ⟨by (with_reducible repeat (first | apply bN | apply bD | apply bA)); refine blk_far ?_ NB172_171.out _; (with_reducible repeat (first | apply bN | apply bD | apply bA)); refine blk_far ?_ NB172_170.out _; (with_reducible repeat (first | apply bN | apply bD | apply bA)); exact BK172.out⟩
     have n3_ : Aside0 (((w59.setCell ⟨gb170, 1, none⟩ (.int .u64 ji36)).setCell ⟨gb171, 0, none⟩ (.int .u64 ji37)).heap[gb173]? = some (.cells #[.int .u64 0, .int .u64 0] 58 (0, 0))) := ⟨by (with_reducible repeat (first | apply bN | apply bD | apply bA)); refine blk_far ?_ NB173_171.out _; (with_reducible repeat (first | apply bN | apply bD | apply bA)); refine blk_far ?_ NB173_170.out _; (with_reducible repeat (first | apply bN | apply bD | apply bA)); exact BK173.out⟩
     have n4_ : Aside0 (Below w.heap.size w ((w59.setCell ⟨gb170, 1, none⟩ (.int .u64 ji36)).setCell ⟨gb171, 0, none⟩ (.int .u64 ji37))) := ⟨by repeat (first | (with_reducible first | exact HB.out | apply lA | apply lN | apply lD | refine lS ?_ ‹_›) | exact HB.out)⟩
     (try clear BK170)
     (try clear BK171)
     (try clear BK172)
     (try clear BK173)
     (try clear HB)
     generalize ((w59.setCell ⟨gb170, 1, none⟩ (.int .u64 ji36)).setCell ⟨gb171, 0, none⟩ (.int .u64 ji37)) = w67 at n0_ n1_ n2_ n3_ n4_ ⊢
     have BK170 := n0_; have BK171 := n1_; have BK172 := n2_; have BK173 := n3_; have HB := n4_; clear n0_ n1_ n2_ n3_ n4_; have n0_ := Aside0.mk (blk_drew BK170.out); have n1_ := Aside0.mk (blk_drew BK171.out); have n2_ := Aside0.mk (blk_drew BK172.out); have n3_ := Aside0.mk (blk_drew BK173.out)
     have n4_ := Aside0.mk (below_drew1 HB.out)
     clear BK170; clear BK171; clear BK172; clear BK173; clear HB; have BK170 := n0_; have BK171 := n1_; have BK172 := n2_; have BK173 := n3_; have HB := n4_; clear n0_ n1_ n2_ n3_ n4_
     refine start_ (n := 17) (S := fun w' => w'.cell? ⟨gb170, 0, none⟩ = some (.int .u64 a0_0) ∧ w'.cell? ⟨gb170, 1, none⟩ = some (.int .u64 ji36) ∧ w'.cell? ⟨gb171, 0, none⟩ = some (.int .u64 ji37) ∧ w'.cell? ⟨gb171, 1, none⟩ = some (.int .u64 a1_1)) (ds := []) #[false, false, false, false, false, false, false, false, false, false, false, false, false, false, false, false, false] (by kernel_rfl) rfl rfl ⟨(blk_cell BK170.out 0).trans rfl, (blk_cell BK170.out 1).trans rfl, (blk_cell BK171.out 0).trans rfl, (blk_cell BK171.out 1).trans rfl⟩ (fun hHeld => ?_); refine with_tabW span_less.tab8 span_less.bits8 (fun HT_ HW_ => ?_)
     generalize w67.drew = w68 at BK170 BK171 BK172 BK173 HB hHeld ⊢
     refine pure_ (i := 2) (N := some 42) (v := ?_) (a' := ?_) #[false, false, true, false, false, false, false, false, false, false, false, false, false, false, false, false, false] rfl rfl (any_of HT_.out (by kernel_rfl)) (fun _ _ _ h => h) (Or.inl ⟨by rfl, ?_⟩) ?_ ?_
     rotate_left
     ·
      intro w'
      go_simp; with_reducible rfl
     rotate_left
     ·
      simp only [Act.put, List.setIfInBounds_toArray, List.set_cons_zero, List.set_cons_succ, i64_w, i32_w]
      rfl
     refine pure_ (i := 4) (N := some 44) (v := ?_) (a' := ?_) #[false, false, true, false, true, false, false, false, false, false, false, false, false, false, false, false, false] rfl rfl (any_of HT_.out (by kernel_rfl)) (fun _ _ _ h => h) (Or.inl ⟨by rfl, ?_⟩) ?_ ?_
     rotate_left
     ·
      intro w'
      go_simp; with_reducible rfl
     rotate_left
     ·
      simp only [Act.put, List.setIfInBounds_toArray, List.set_cons_zero, List.set_cons_succ, i64_w, i32_w]
      rfl
     refine take_ (i := 0) (N := some 40) (v := ?_) (a' := ?_) #[true, false, true, false, true, false, false, false, false, false, false, false, false, false, false, false, false] rfl rfl (take_ofW HT_.out HW_.out (by kernel_rfl)) (fun _ _ _ h => h) (Or.inl ⟨by rfl, ?_⟩) hHeld ?_ ?_
     rotate_left
     ·
      rintro w' ⟨s0, s1, s2, s3⟩
      go_simp; with_reducible rfl
     rotate_left
     ·
      simp only [Act.put, List.setIfInBounds_toArray, List.set_cons_zero, List.set_cons_succ, i64_w, i32_w]
      rfl
     refine take_ (i := 1) (N := some 41) (v := ?_) (a' := ?_) #[true, true, true, false, true, false, false, false, false, false, false, false, false, false, false, false, false] rfl rfl (take_ofW HT_.out HW_.out (by kernel_rfl)) (fun _ _ _ h => h) (Or.inl ⟨by rfl, ?_⟩) hHeld ?_ ?_
     rotate_left
     ·
      rintro w' ⟨s0, s1, s2, s3⟩
      go_simp; with_reducible rfl
     rotate_left
     ·
      simp only [Act.put, List.setIfInBounds_toArray, List.set_cons_zero, List.set_cons_succ, i64_w, i32_w]
      rfl
     refine take_ (i := 3) (N := some 43) (v := ?_) (a' := ?_) #[true, true, true, true, true, false, false, false, false, false, false, false, false, false, false, false, false] rfl rfl (take_ofW HT_.out HW_.out (by kernel_rfl)) (fun _ _ _ h => h) (Or.inl ⟨by rfl, ?_⟩) hHeld ?_ ?_
     rotate_left
     ·
      rintro w' ⟨s0, s1, s2, s3⟩
      go_simp; with_reducible rfl
     rotate_left
     ·
      simp only [Act.put, List.setIfInBounds_toArray, List.set_cons_zero, List.set_cons_succ, i64_w, i32_w]
      rfl
     refine take_ (i := 5) (N := some 45) (v := ?_) (a' := ?_) #[true, true, true, true, true, true, false, false, false, false, false, false, false, false, false, false, false] rfl rfl (take_ofW HT_.out HW_.out (by kernel_rfl)) (fun _ _ _ h => h) (Or.inl ⟨by rfl, ?_⟩) hHeld ?_ ?_
     rotate_left
     ·
      rintro w' ⟨s0, s1, s2, s3⟩
      go_simp; with_reducible rfl
     rotate_left
     ·
      simp only [Act.put, List.setIfInBounds_toArray, List.set_cons_zero, List.set_cons_succ, i64_w, i32_w]
      rfl
     refine pure_ (i := 6) (N := some 46) (v := ?_) (a' := ?_) #[true, true, true, true, true, true, true, false, false, false, false, false, false, false, false, false, false] rfl rfl (any_of HT_.out (by kernel_rfl)) (fun _ _ _ h => h) (Or.inl ⟨by rfl, ?_⟩) ?_ ?_
     rotate_left
     ·
      intro w'
      go_simp; with_reducible rfl
     rotate_left
     ·
      simp only [Act.put, List.setIfInBounds_toArray, List.set_cons_zero, List.set_cons_succ, i64_w, i32_w]
      rfl
     refine pure_ (i := 7) (N := some 47) (v := ?_) (a' := ?_) #[true, true, true, true, true, true, true, true, false, false, false, false, false, false, false, false, false] rfl rfl (any_of HT_.out (by kernel_rfl)) (fun _ _ _ h => h) (Or.inl ⟨by rfl, ?_⟩) ?_ ?_
     rotate_left
     ·
      intro w'
      go_simp; with_reducible rfl
     rotate_left
     ·
      simp only [Act.put, List.setIfInBounds_toArray, List.set_cons_zero, List.set_cons_succ, i64_w, i32_w]
      rfl
     refine pure_ (i := 8) (N := some 48) (v := undef) (a' := ?_) #[true, true, true, true, true, true, true, true, true, false, false, false, false, false, false, false, false] rfl rfl (any_of HT_.out (by kernel_rfl)) (fun _ _ _ h => h) (Or.inr ⟨by rfl, rfl⟩) ?_ ?_
     rotate_left
     ·
      simp only [Act.put, List.setIfInBounds_toArray, List.set_cons_zero, List.set_cons_succ, i64_w, i32_w]
      rfl
     refine pure_ (i := 9) (N := some 49) (v := undef) (a' := ?_) #[true, true, true, true, true, true, true, true, true, true, false, false, false, false, false, false, false] rfl rfl (any_of HT_.out (by kernel_rfl)) (fun _ _ _ h => h) (Or.inr ⟨by rfl, rfl⟩) ?_ ?_
     rotate_left
     ·
      simp only [Act.put, List.setIfInBounds_toArray, List.set_cons_zero, List.set_cons_succ, i64_w, i32_w]
      rfl
     refine pure_ (i := 10) (N := some 50) (v := undef) (a' := ?_) #[true, true, true, true, true, true, true, true, true, true, true, false, false, false, false, false, false] rfl rfl (any_of HT_.out (by kernel_rfl)) (fun _ _ _ h => h) (Or.inr ⟨by rfl, rfl⟩) ?_ ?_
     rotate_left
     ·
      simp only [Act.put, List.setIfInBounds_toArray, List.set_cons_zero, List.set_cons_succ, i64_w, i32_w]
      rfl
     refine pure_ (i := 11) (N := some 51) (v := undef) (a' := ?_) #[true, true, true, true, true, true, true, true, true, true, true, true, false, false, false, false, false] rfl rfl (any_of HT_.out (by kernel_rfl)) (fun _ _ _ h => h) (Or.inr ⟨by rfl, rfl⟩) ?_ ?_
     rotate_left
     ·
      simp only [Act.put, List.setIfInBounds_toArray, List.set_cons_zero, List.set_cons_succ, i64_w, i32_w]
      rfl
     refine pure_ (i := 12) (N := some 52) (v := undef) (a' := ?_) #[true, true, true, true, true, true, true, true, true, true, true, true, true, false, false, false, false] rfl rfl (any_of HT_.out (by kernel_rfl)) (fun _ _ _ h => h) (Or.inr ⟨by rfl, rfl⟩) ?_ ?_
     rotate_left
     ·
      simp only [Act.put, List.setIfInBounds_toArray, List.set_cons_zero, List.set_cons_succ, i64_w, i32_w]
      rfl
     refine pure_ (i := 13) (N := some 53) (v := ?_) (a' := ?_) #[true, true, true, true, true, true, true, true, true, true, true, true, true, true, false, false, false] rfl rfl (any_of HT_.out (by kernel_rfl)) (fun _ _ _ h => h) (Or.inl ⟨by rfl, ?_⟩) ?_ ?_
     rotate_left
     ·
      intro w'
      go_simp; with_reducible rfl
     rotate_left
     ·
      simp only [Act.put, List.setIfInBounds_toArray, List.set_cons_zero, List.set_cons_succ, i64_w, i32_w]
      rfl
     refine one_ (i := 14) (N := none) #[true, true, true, true, true, true, true, true, true, true, true, true, true, true, true, false, false] rfl rfl (one_of HT_.out (by kernel_rfl)) (by decide) (fun K hK => ?_)
     have hs69 : w68.cell? ⟨gb172, 0, none⟩ = some (.int .u64 0) := (blk_cell BK172.out 0).trans rfl
     have hfs69 := blk_frozen BK172.out 0
     have hns69_0 := NB170_172.out
     have hns69_1 := NB171_172.out
     have hns69_3 := NB173_172.out
     have hms69_0 := NB172_170.out
     have hms69_1 := NB172_171.out
     have hms69_3 := NB172_173.out
     have hs70 : w68.cell? ⟨gb172, 1, none⟩ = some (.int .u64 0) := (blk_cell BK172.out 1).trans rfl
     have hfs70 := blk_frozen BK172.out 1
     have hns70_0 := NB170_172.out
     have hns70_1 := NB171_172.out
     have hns70_3 := NB173_172.out
     have hms70_0 := NB172_170.out
     have hms70_1 := NB172_171.out
     have hms70_3 := NB172_173.out
     refine skip_ (w1 := ?_) (by rfl) rfl ?_ ?_
     rotate_left
     ·
      go_simp
      rfl
     refine hK.out _ _ ⟨((cell_far (p := ⟨gb172, _, none⟩) NB170_172.out _).trans (((cell_far (p := ⟨gb172, _, none⟩) NB170_172.out _).trans (hHeld.1)))), ((cell_far (p := ⟨gb172, _, none⟩) NB170_172.out _).trans (((cell_far (p := ⟨gb172, _, none⟩) NB170_172.out _).trans (hHeld.2.1)))), ((cell_far (p := ⟨gb172, _, none⟩) NB171_172.out _).trans (((cell_far (p := ⟨gb172, _, none⟩) NB171_172.out _).trans (hHeld.2.2.1)))), ((cell_far (p := ⟨gb172, _, none⟩) NB171_172.out _).trans (((cell_far (p := ⟨gb172, _, none⟩) NB171_172.out _).trans (hHeld.2.2.2))))⟩ (fun hHeld => ?_)
     clear hK K
     refine one_ (i := 15) (N := none) #[true, true, true, true, true, true, true, true, true, true, true, true, true, true, true, true, false] rfl rfl (one_of HT_.out (by kernel_rfl)) (by decide) (fun K hK => ?_)
     have hs71 : w68.cell? ⟨gb173, 0, none⟩ = some (.int .u64 0) := (blk_cell BK173.out 0).trans rfl
     have hfs71 := blk_frozen BK173.out 0
     have hns71_0 := NB170_173.out
     have hns71_1 := NB171_173.out
     have hns71_2 := NB172_173.out
     have hms71_0 := NB173_170.out
     have hms71_1 := NB173_171.out
     have hms71_2 := NB173_172.out
     have hs72 : w68.cell? ⟨gb173, 1, none⟩ = some (.int .u64 0) := (blk_cell BK173.out 1).trans rfl
     have hfs72 := blk_frozen BK173.out 1
     have hns72_0 := NB170_173.out
     have hns72_1 := NB171_173.out
     have hns72_2 := NB172_173.out
     have hms72_0 := NB173_170.out
     have hms72_1 := NB173_171.out
     have hms72_2 := NB173_172.out
     refine skip_ (w1 := ?_) (by rfl) rfl ?_ ?_
     rotate_left
     ·
      go_simp
      rfl
     refine hK.out _ _ ⟨((cell_far (p := ⟨gb173, _, none⟩) NB170_173.out _).trans (((cell_far (p := ⟨gb173, _, none⟩) NB170_173.out _).trans (hHeld.1)))), ((cell_far (p := ⟨gb173, _, none⟩) NB170_173.out _).trans (((cell_far (p := ⟨gb173, _, none⟩) NB170_173.out _).trans (hHeld.2.1)))), ((cell_far (p := ⟨gb173, _, none⟩) NB171_173.out _).trans (((cell_far (p := ⟨gb173, _, none⟩) NB171_173.out _).trans (hHeld.2.2.1)))), ((cell_far (p := ⟨gb173, _, none⟩) NB171_173.out _).trans (((cell_far (p := ⟨gb173, _, none⟩) NB171_173.out _).trans (hHeld.2.2.2))))⟩ (fun hHeld => ?_)
     clear hK K
     refine pure_ (i := 16) (N := some 8) (v := ?_) (a' := ?_) #[true, true, true, true, true, true, true, true, true, true, true, true, true, true, true, true, true] rfl rfl (any_of HT_.out (by kernel_rfl)) (fun _ _ _ h => h) (Or.inl ⟨by rfl, ?_⟩) ?_ ?_
     rotate_left
     ·
      intro w'
      go_simp; with_reducible rfl
     rotate_left
     ·
      simp only [Act.put, List.setIfInBounds_toArray, List.set_cons_zero, List.set_cons_succ, i64_w, i32_w]
      rfl
     refine done_ (done_of HT_.out (by kernel_rfl)) ?_
     try go_wp2
     refine bodyPost_ret (results_list (rs := [.cell 6 58, .cell 7 58, .tmp 8]) rfl (by simp) (.cell gb172 58 #[.int .u64 a0_0, .int .u64 ji36] (0, 0) _ rfl (by (with_reducible repeat (first | apply bN | apply bD | apply bA)); refine blk_far ?_ NB172_173.out _; (with_reducible repeat (first | apply bN | apply bD | apply bA)); refine blk_far ?_ NB172_173.out _; (with_reducible repeat (first | apply bN | apply bD | apply bA)); refine blk_put (cs := #[.int .u64 a0_0, .int .u64 0]) ?_ 1 _ rfl; (with_reducible repeat (first | apply bN | apply bD | apply bA)); refine blk_put (cs := #[.int .u64 0, .int .u64 0]) ?_ 0 _ rfl; (with_reducible repeat (first | apply bN | apply bD | apply bA)); exact BK172.out) Try.underlying58 rfl (by kernel_rfl) (.cell gb173 58 #[.int .u64 ji37, .int .u64 a1_1] (0, 0) _ rfl (by (with_reducible repeat (first | apply bN | apply bD | apply bA)); refine blk_put (cs := #[.int .u64 ji37, .int .u64 0]) ?_ 1 _ rfl; (with_reducible repeat (first | apply bN | apply bD | apply bA)); refine blk_put (cs := #[.int .u64 0, .int .u64 0]) ?_ 0 _ rfl; (with_reducible repeat (first | apply bN | apply bD | apply bA)); refine blk_far ?_ NB173_172.out _; (with_reducible repeat (first | apply bN | apply bD | apply bA)); refine blk_far ?_ NB173_172.out _; (with_reducible repeat (first | apply bN | apply bD | apply bA)); exact BK173.out) Try.underlying58 rfl (by kernel_rfl) (.tmp .nil)))) rfl ?_
     exact ⟨by first | rfl | (simp [errW_none, errW_some] <;> rfl) | (simp only [← hji36, ← hji37]; first | rfl | (simp [errW_none, errW_some] <;> rfl)) | (simp [*, errW_none, errW_some] <;> rfl), by repeat (first | (with_reducible first | exact HB.out | apply lA | apply lN | apply lD | refine lS ?_ ‹_›) | exact HB.out)⟩
 ·
  replace c4 := Bool.eq_false_iff.mpr c4
  subst c4
  have H1 : (if a1_1 < 1 then (some (a0_0, a0_1, a1_0, a1_1, false)) else (if a0_0 > 18446744073709551614 then (some (a0_0, a0_1, a1_0, a1_1, false)) else (if a0_0 ≤ (mn a0_1 (IntKind.u64.wrap (a1_1 - 1))) then (some (a0_0, mn a0_1 (IntKind.u64.wrap (a1_1 - 1)), mx a1_0 (IntKind.u64.wrap (a0_0 + 1)), a1_1, decide ((mx a1_0 (IntKind.u64.wrap (a0_0 + 1))) ≤ a1_1))) else (some (a0_0, mn a0_1 (IntKind.u64.wrap (a1_1 - 1)), mx a1_0 (IntKind.u64.wrap (a0_0 + 1)), a1_1, false))))) = some (r1, r2, r3, r4, r5) := by rw [if_neg (show ¬ (false = true) by decide)] at H; exact H
  clear H; have H := H1; clear H1
  by_cases c73 : a1_1 < 1
  ·
   rw [if_pos c73] at H
   have c73b0 : decide (a1_1 < 1) = true := decide_eq_true c73; clear c73; simp only [Option.some.injEq, Prod.mk.injEq] at H; obtain ⟨rfl, rfl, rfl, rfl, rfl⟩ := H
   go_enter Try.func64, Try.ntmps64
   try go_wp2_with (first | ((with_reducible refine gate_dst (N := 3) rfl ?_); refine box_event ?hg (N := 3) ?hd (cs := #[.int .u64 a0_0, .int .u64 a0_1]) (t := 58) ?hr ?_; (case hd => rfl); (case hg => rfl); (case hr => first | (go_simp; done) | (go_simp; rfl)); intro gb170 hg w74 hbox hb; have n0_ := Aside0.mk (below_step (by repeat (first | (with_reducible first | exact HB.out | apply lA | apply lN | apply lD) | exact HB.out)) hb); have n1_ := Aside0.mk (hbox); have n2_ := Aside0.mk ((by rw [hg]; exact (below_size (by repeat (first | (with_reducible first | exact HB.out | apply lA | apply lN | apply lD) | exact HB.out))) : w.heap.size ≤ gb170)); have n3_ := n2_; clear HB; have HB := n0_; have BK170 := n1_; have GW170 := n2_; have GE170 := n3_; clear n0_ n1_ n2_ n3_; clear hb hbox hg) | ((with_reducible refine gate_dst (N := 4) rfl ?_); refine box_event ?hg (N := 4) ?hd (cs := #[.int .u64 a1_0, .int .u64 a1_1]) (t := 58) ?hr ?_; (case hd => rfl); (case hg => rfl); (case hr => first | (go_simp; done) | (go_simp; rfl)); intro gb171 hg w75 hbox hb; have n0_ := Aside0.mk (blk_below (g := gb170) (o := .cells #[.int .u64 a0_0, .int .u64 a0_1] 58 (0, 0)) (by (with_reducible repeat (first | apply bN | apply bD | apply bA)); exact BK170.out) hb); have n1_ := Aside0.mk (below_step (by repeat (first | (with_reducible first | exact HB.out | apply lA | apply lN | apply lD | refine lS ?_ ‹_›) | exact HB.out)) hb); have n2_ := Aside0.mk (hbox); have n3_ := Aside0.mk ((by rw [hg]; exact (below_size (by repeat (first | (with_reducible first | exact HB.out | apply lA | apply lN | apply lD | refine lS ?_ ‹_›) | exact HB.out))) : w.heap.size ≤ gb171)); have n4_ := n3_; have n5_ := Aside0.mk ((by rw [hg]; exact Nat.ne_of_lt (blk_lt (g := gb170) (o := .cells #[.int .u64 a0_0, .int .u64 a0_1] 58 (0, 0)) (by (with_reducible repeat (first | apply bN | apply bD | apply bA)); exact BK170.out)) : gb170 ≠ gb171)); have n6_ := sy n5_; clear BK170; clear HB; have BK170 := n0_; have HB := n1_; have BK171 := n2_; have GW171 := n3_; have GE171 := n4_; have NB170_171 := n5_; have NB171_170 := n6_; clear n0_ n1_ n2_ n3_ n4_ n5_ n6_; clear hb hbox hg) | ((with_reducible refine gate_dst (N := 6) rfl ?_); refine box_event ?hg (N := 6) ?hd (cs := #[.int .u64 0, .int .u64 0]) (t := 58) ?hr ?_; (case hd => rfl); (case hg => rfl); (case hr => first | (go_simp; done) | (go_simp; rfl)); intro gb172 hg w76 hbox hb; have n0_ := Aside0.mk (blk_below (g := gb170) (o := .cells #[.int .u64 a0_0, .int .u64 a0_1] 58 (0, 0)) (by (with_reducible repeat (first | apply bN | apply bD | apply bA)); exact BK170.out) hb); have n1_ := Aside0.mk (blk_below (g := gb171) (o := .cells #[.int .u64 a1_0, .int .u64 a1_1] 58 (0, 0)) (by (with_reducible repeat (first | apply bN | apply bD | apply bA)); exact BK171.out) hb); have n2_ := Aside0.mk (below_step (by repeat (first | (with_reducible first | exact HB.out | apply lA | apply lN | apply lD | refine lS ?_ ‹_›) | exact HB.out)) hb); have n3_ := Aside0.mk (hbox); have n4_ := Aside0.mk ((by rw [hg]; exact (below_size (by repeat (first | (with_reducible first | exact HB.out | apply lA | apply lN | apply lD | refine lS ?_ ‹_›) | exact HB.out))) : w.heap.size ≤ gb172)); have n5_ := n4_; have n6_ := Aside0.mk ((by rw [hg]; exact Nat.ne_of_lt (blk_lt (g := gb170) (o := .cells #[.int .u64 a0_0, .int .u64 a0_1] 58 (0, 0)) (by (with_reducible repeat (first | apply bN | apply bD | apply bA)); exact BK170.out)) : gb170 ≠ gb172)); have n7_ := sy n6_; have n8_ := Aside0.mk ((by rw [hg]; exact Nat.ne_of_lt (blk_lt (g := gb171) (o := .cells #[.int .u64 a1_0, .int .u64 a1_1] 58 (0, 0)) (by (with_reducible repeat (first | apply bN | apply bD | apply bA)); exact BK171.out)) : gb171 ≠ gb172)); have n9_ := sy n8_; clear BK170; clear BK171; clear HB; have BK170 := n0_; have BK171 := n1_; have HB := n2_; have BK172 := n3_; have GW172 := n4_; have GE172 := n5_; have NB170_172 := n6_; have NB172_170 := n7_; have NB171_172 := n8_; have NB172_171 := n9_; clear n0_ n1_ n2_ n3_ n4_ n5_ n6_ n7_ n8_ n9_; clear hb hbox hg) | ((with_reducible refine gate_dst (N := 7) rfl ?_); refine box_event ?hg (N := 7) ?hd (cs := #[.int .u64 0, .int .u64 0]) (t := 58) ?hr ?_; (case hd => rfl); (case hg => rfl); (case hr => first | (go_simp; done) | (go_simp; rfl)); intro gb173 hg w77 hbox hb; have n0_ := Aside0.mk (blk_below (g := gb170) (o := .cells #[.int .u64 a0_0, .int .u64 a0_1] 58 (0, 0)) (by (with_reducible repeat (first | apply bN | apply bD | apply bA)); exact BK170.out) hb); have n1_ := Aside0.mk (blk_below (g := gb171) (o := .cells #[.int .u64 a1_0, .int .u64 a1_1] 58 (0, 0)) (by (with_reducible repeat (first | apply bN | apply bD | apply bA)); exact BK171.out) hb); have n2_ := Aside0.mk (blk_below (g := gb172) (o := .cells #[.int .u64 0, .int .u64 0] 58 (0, 0)) (by (with_reducible repeat (first | apply bN | apply bD | apply bA)); exact BK172.out) hb); have n3_ := Aside0.mk (below_step (by repeat (first | (with_reducible first | exact HB.out | apply lA | apply lN | apply lD | refine lS ?_ ‹_›) | exact HB.out)) hb); have n4_ := Aside0.mk (hbox); have n5_ := Aside0.mk ((by rw [hg]; exact (below_size (by repeat (first | (with_reducible first | exact HB.out | apply lA | apply lN | apply lD | refine lS ?_ ‹_›) | exact HB.out))) : w.heap.size ≤ gb173)); have n6_ := n5_; have n7_ := Aside0.mk ((by rw [hg]; exact Nat.ne_of_lt (blk_lt (g := gb170) (o := .cells #[.int .u64 a0_0, .int .u64 a0_1] 58 (0, 0)) (by (with_reducible repeat (first | apply bN | apply bD | apply bA)); exact BK170.out)) : gb170 ≠ gb173)); have n8_ := sy n7_; have n9_ := Aside0.mk ((by rw [hg]; exact Nat.ne_of_lt (blk_lt (g := gb171) (o := .cells #[.int .u64 a1_0, .int .u64 a1_1] 58 (0, 0)) (by (with_reducible repeat (first | apply bN | apply bD | apply bA)); exact BK171.out)) : gb171 ≠ gb173)); have n10_ := sy n9_; have n11_ := Aside0.mk ((by rw [hg]; exact Nat.ne_of_lt (blk_lt (g := gb172) (o := .cells #[.int .u64 0, .int .u64 0] 58 (0, 0)) (by (with_reducible repeat (first | apply bN | apply bD | apply bA)); exact BK172.out)) : gb172 ≠ gb173)); have n12_ := sy n11_; clear BK170; clear BK171; clear BK172; clear HB; have BK170 := n0_; have BK171 := n1_; have BK172 := n2_; have HB := n3_; have BK173 := n4_; have GW173 := n5_; have GE173 := n6_; have NB170_173 := n7_; have NB173_170 := n8_; have NB171_173 := n9_; have NB173_171 := n10_; have NB172_173 := n11_; have NB173_172 := n12_; clear n0_ n1_ n2_ n3_ n4_ n5_ n6_ n7_ n8_ n9_ n10_ n11_ n12_; clear hb hbox hg; have hnb78 := NB171_170.out; have hnc78 := NB170_171.out; have hnb79 := NB171_172.out; have hnc79 := NB172_171.out; have hnb80 := NB171_173.out; have hnc80 := NB173_171.out; have hcz81_0 : w77.cell? ⟨gb171, 0, none⟩ = some (.int .u64 a1_0) := (blk_cell BK171.out 0).trans rfl; have hcz81_1 : w77.cell? ⟨gb171, 1, none⟩ = some (.int .u64 a1_1) := (blk_cell BK171.out 1).trans rfl; have hfz81_0 := blk_frozen BK171.out 0; have hfz81_1 := blk_frozen BK171.out 1))
   have n0_ := Aside0.mk (blk_drew BK170.out); have n1_ := Aside0.mk (blk_drew BK171.out); have n2_ := Aside0.mk (blk_drew BK172.out); have n3_ := Aside0.mk (blk_drew BK173.out)
   have n4_ := Aside0.mk (below_drew1 HB.out)
   clear BK170; clear BK171; clear BK172; clear BK173; clear HB; have BK170 := n0_; have BK171 := n1_; have BK172 := n2_; have BK173 := n3_; have HB := n4_; clear n0_ n1_ n2_ n3_ n4_
   refine start_ (n := 5) (S := fun w' => w'.cell? ⟨gb170, 0, none⟩ = some (.int .u64 a0_0) ∧ w'.cell? ⟨gb170, 1, none⟩ = some (.int .u64 a0_1) ∧ w'.cell? ⟨gb171, 0, none⟩ = some (.int .u64 a1_0) ∧ w'.cell? ⟨gb171, 1, none⟩ = some (.int .u64 a1_1)) (ds := []) #[false, false, false, false, false] (by kernel_rfl) rfl rfl ⟨(blk_cell BK170.out 0).trans rfl, (blk_cell BK170.out 1).trans rfl, (blk_cell BK171.out 0).trans rfl, (blk_cell BK171.out 1).trans rfl⟩ (fun hHeld => ?_)
   generalize w77.drew = w82 at BK170 BK171 BK172 BK173 HB hHeld ⊢
   refine take_ (i := 0) (N := some 22) (v := ?_) (a' := ?_) #[true, false, false, false, false] rfl rfl (by kernel_rfl) (fun _ _ _ h => h) (Or.inl ⟨by rfl, ?_⟩) hHeld ?_ ?_
   rotate_left
   ·
    rintro w' ⟨s0, s1, s2, s3⟩
    go_simp; with_reducible rfl
   rotate_left
   ·
    simp only [Act.put, List.setIfInBounds_toArray, List.set_cons_zero, List.set_cons_succ, i64_w, i32_w]
    rfl
   refine take_ (i := 1) (N := some 23) (v := ?_) (a' := ?_) #[true, true, false, false, false] rfl rfl (by kernel_rfl) (fun _ _ _ h => h) (Or.inl ⟨by rfl, ?_⟩) hHeld ?_ ?_
   rotate_left
   ·
    rintro w' ⟨s0, s1, s2, s3⟩
    go_simp; with_reducible rfl
   rotate_left
   ·
    simp only [Act.put, List.setIfInBounds_toArray, List.set_cons_zero, List.set_cons_succ, i64_w, i32_w]
    rfl
   refine one_ (i := 2) (N := none) #[true, true, true, false, false] rfl rfl (by kernel_rfl) (by decide) (fun K hK => ?_)
   have hs83 : w82.cell? ⟨gb172, 0, none⟩ = some (.int .u64 0) := (blk_cell BK172.out 0).trans rfl
   have hfs83 := blk_frozen BK172.out 0
   have hns83_0 := NB170_172.out
   have hns83_1 := NB171_172.out
   have hns83_3 := NB173_172.out
   have hms83_0 := NB172_170.out
   have hms83_1 := NB172_171.out
   have hms83_3 := NB172_173.out
   have hs84 : w82.cell? ⟨gb172, 1, none⟩ = some (.int .u64 0) := (blk_cell BK172.out 1).trans rfl
   have hfs84 := blk_frozen BK172.out 1
   have hns84_0 := NB170_172.out
   have hns84_1 := NB171_172.out
   have hns84_3 := NB173_172.out
   have hms84_0 := NB172_170.out
   have hms84_1 := NB172_171.out
   have hms84_3 := NB172_173.out
   refine skip_ (w1 := ?_) (by rfl) rfl ?_ ?_
   rotate_left
   ·
    go_simp
    rfl
   refine hK.out _ _ ⟨((cell_far (p := ⟨gb172, _, none⟩) NB170_172.out _).trans (((cell_far (p := ⟨gb172, _, none⟩) NB170_172.out _).trans (hHeld.1)))), ((cell_far (p := ⟨gb172, _, none⟩) NB170_172.out _).trans (((cell_far (p := ⟨gb172, _, none⟩) NB170_172.out _).trans (hHeld.2.1)))), ((cell_far (p := ⟨gb172, _, none⟩) NB171_172.out _).trans (((cell_far (p := ⟨gb172, _, none⟩) NB171_172.out _).trans (hHeld.2.2.1)))), ((cell_far (p := ⟨gb172, _, none⟩) NB171_172.out _).trans (((cell_far (p := ⟨gb172, _, none⟩) NB171_172.out _).trans (hHeld.2.2.2))))⟩ (fun hHeld => ?_)
   clear hK K
   refine one_ (i := 3) (N := none) #[true, true, true, true, false] rfl rfl (by kernel_rfl) (by decide) (fun K hK => ?_)
   have hs85 : w82.cell? ⟨gb173, 0, none⟩ = some (.int .u64 0) := (blk_cell BK173.out 0).trans rfl
   have hfs85 := blk_frozen BK173.out 0
   have hns85_0 := NB170_173.out
   have hns85_1 := NB171_173.out
   have hns85_2 := NB172_173.out
   have hms85_0 := NB173_170.out
   have hms85_1 := NB173_171.out
   have hms85_2 := NB173_172.out
   have hs86 : w82.cell? ⟨gb173, 1, none⟩ = some (.int .u64 0) := (blk_cell BK173.out 1).trans rfl
   have hfs86 := blk_frozen BK173.out 1
   have hns86_0 := NB170_173.out
   have hns86_1 := NB171_173.out
   have hns86_2 := NB172_173.out
   have hms86_0 := NB173_170.out
   have hms86_1 := NB173_171.out
   have hms86_2 := NB173_172.out
   refine skip_ (w1 := ?_) (by rfl) rfl ?_ ?_
   rotate_left
   ·
    go_simp
    rfl
   refine hK.out _ _ ⟨((cell_far (p := ⟨gb173, _, none⟩) NB170_173.out _).trans (((cell_far (p := ⟨gb173, _, none⟩) NB170_173.out _).trans (hHeld.1)))), ((cell_far (p := ⟨gb173, _, none⟩) NB170_173.out _).trans (((cell_far (p := ⟨gb173, _, none⟩) NB170_173.out _).trans (hHeld.2.1)))), ((cell_far (p := ⟨gb173, _, none⟩) NB171_173.out _).trans (((cell_far (p := ⟨gb173, _, none⟩) NB171_173.out _).trans (hHeld.2.2.1)))), ((cell_far (p := ⟨gb173, _, none⟩) NB171_173.out _).trans (((cell_far (p := ⟨gb173, _, none⟩) NB171_173.out _).trans (hHeld.2.2.2))))⟩ (fun hHeld => ?_)
   clear hK K
   refine pure_ (i := 4) (N := some 8) (v := ?_) (a' := ?_) #[true, true, true, true, true] rfl rfl (by kernel_rfl) (fun _ _ _ h => h) (Or.inl ⟨by rfl, ?_⟩) ?_ ?_
   rotate_left
   ·
    intro w'
    go_simp; with_reducible rfl
   rotate_left
   ·
    simp only [Act.put, List.setIfInBounds_toArray, List.set_cons_zero, List.set_cons_succ, i64_w, i32_w]
    rfl
   refine done_ (by kernel_rfl) ?_
   try go_wp2
   refine bodyPost_ret (results_list (rs := [.cell 6 58, .cell 7 58, .tmp 8]) rfl (by simp) (.cell gb172 58 #[.int .u64 a0_0, .int .u64 a0_1] (0, 0) _ rfl (by (with_reducible repeat (first | apply bN | apply bD | apply bA)); refine blk_far ?_ NB172_173.out _; (with_reducible repeat (first | apply bN | apply bD | apply bA)); refine blk_far ?_ NB172_173.out _; (with_reducible repeat (first | apply bN | apply bD | apply bA)); refine blk_put (cs := #[.int .u64 a0_0, .int .u64 0]) ?_ 1 _ rfl; (with_reducible repeat (first | apply bN | apply bD | apply bA)); refine blk_put (cs := #[.int .u64 0, .int .u64 0]) ?_ 0 _ rfl; (with_reducible repeat (first | apply bN | apply bD | apply bA)); exact BK172.out) Try.underlying58 rfl (by kernel_rfl) (.cell gb173 58 #[.int .u64 a1_0, .int .u64 a1_1] (0, 0) _ rfl (by (with_reducible repeat (first | apply bN | apply bD | apply bA)); refine blk_put (cs := #[.int .u64 a1_0, .int .u64 0]) ?_ 1 _ rfl; (with_reducible repeat (first | apply bN | apply bD | apply bA)); refine blk_put (cs := #[.int .u64 0, .int .u64 0]) ?_ 0 _ rfl; (with_reducible repeat (first | apply bN | apply bD | apply bA)); refine blk_far ?_ NB173_172.out _; (with_reducible repeat (first | apply bN | apply bD | apply bA)); refine blk_far ?_ NB173_172.out _; (with_reducible repeat (first | apply bN | apply bD | apply bA)); exact BK173.out) Try.underlying58 rfl (by kernel_rfl) (.tmp .nil)))) rfl ?_
   exact ⟨by first | rfl | (simp [errW_none, errW_some] <;> rfl) | (simp [*, errW_none, errW_some] <;> rfl), by repeat (first | (with_reducible first | exact HB.out | apply lA | apply lN | apply lD | refine lS ?_ ‹_›) | exact HB.out)⟩
  ·
   rw [if_neg c73] at H
   have c73b0 : decide (a1_1 < 1) = false := decide_eq_false c73; clear c73
   by_cases c87 : a0_0 > 18446744073709551614
   ·
    rw [if_pos c87] at H
    have c87b0 : decide (18446744073709551614 < a0_0) = true := decide_eq_true c87; clear c87; simp only [Option.some.injEq, Prod.mk.injEq] at H; obtain ⟨rfl, rfl, rfl, rfl, rfl⟩ := H
    go_enter Try.func64, Try.ntmps64
    try go_wp2_with (first | ((with_reducible refine gate_dst (N := 3) rfl ?_); refine box_event ?hg (N := 3) ?hd (cs := #[.int .u64 a0_0, .int .u64 a0_1]) (t := 58) ?hr ?_; (case hd => rfl); (case hg => rfl); (case hr => first | (go_simp; done) | (go_simp; rfl)); intro gb170 hg w88 hbox hb; have n0_ := Aside0.mk (below_step (by repeat (first | (with_reducible first | exact HB.out | apply lA | apply lN | apply lD) | exact HB.out)) hb); have n1_ := Aside0.mk (hbox); have n2_ := Aside0.mk ((by rw [hg]; exact (below_size (by repeat (first | (with_reducible first | exact HB.out | apply lA | apply lN | apply lD) | exact HB.out))) : w.heap.size ≤ gb170)); have n3_ := n2_; clear HB; have HB := n0_; have BK170 := n1_; have GW170 := n2_; have GE170 := n3_; clear n0_ n1_ n2_ n3_; clear hb hbox hg) | ((with_reducible refine gate_dst (N := 4) rfl ?_); refine box_event ?hg (N := 4) ?hd (cs := #[.int .u64 a1_0, .int .u64 a1_1]) (t := 58) ?hr ?_; (case hd => rfl); (case hg => rfl); (case hr => first | (go_simp; done) | (go_simp; rfl)); intro gb171 hg w89 hbox hb; have n0_ := Aside0.mk (blk_below (g := gb170) (o := .cells #[.int .u64 a0_0, .int .u64 a0_1] 58 (0, 0)) (by (with_reducible repeat (first | apply bN | apply bD | apply bA)); exact BK170.out) hb); have n1_ := Aside0.mk (below_step (by repeat (first | (with_reducible first | exact HB.out | apply lA | apply lN | apply lD | refine lS ?_ ‹_›) | exact HB.out)) hb); have n2_ := Aside0.mk (hbox); have n3_ := Aside0.mk ((by rw [hg]; exact (below_size (by repeat (first | (with_reducible first | exact HB.out | apply lA | apply lN | apply lD | refine lS ?_ ‹_›) | exact HB.out))) : w.heap.size ≤ gb171)); have n4_ := n3_; have n5_ := Aside0.mk ((by rw [hg]; exact Nat.ne_of_lt (blk_lt (g := gb170) (o := .cells #[.int .u64 a0_0, .int .u64 a0_1] 58 (0, 0)) (by (with_reducible repeat (first | apply bN | apply bD | apply bA)); exact BK170.out)) : gb170 ≠ gb171)); have n6_ := sy n5_; clear BK170; clear HB; have BK170 := n0_; have HB := n1_; have BK171 := n2_; have GW171 := n3_; have GE171 := n4_; have NB170_171 := n5_; have NB171_170 := n6_; clear n0_ n1_ n2_ n3_ n4_ n5_ n6_; clear hb hbox hg) | ((with_reducible refine gate_dst (N := 6) rfl ?_); refine box_event ?hg (N := 6) ?hd (cs := #[.int .u64 0, .int .u64 0]) (t := 58) ?hr ?_; (case hd => rfl); (case hg => rfl); (case hr => first | (go_simp; done) | (go_simp; rfl)); intro gb172 hg w90 hbox hb; have n0_ := Aside0.mk (blk_below (g := gb170) (o := .cells #[.int .u64 a0_0, .int .u64 a0_1] 58 (0, 0)) (by (with_reducible repeat (first | apply bN | apply bD | apply bA)); exact BK170.out) hb); have n1_ := Aside0.mk (blk_below (g := gb171) (o := .cells #[.int .u64 a1_0, .int .u64 a1_1] 58 (0, 0)) (by (with_reducible repeat (first | apply bN | apply bD | apply bA)); exact BK171.out) hb); have n2_ := Aside0.mk (below_step (by repeat (first | (with_reducible first | exact HB.out | apply lA | apply lN | apply lD | refine lS ?_ ‹_›) | exact HB.out)) hb); have n3_ := Aside0.mk (hbox); have n4_ := Aside0.mk ((by rw [hg]; exact (below_size (by repeat (first | (with_reducible first | exact HB.out | apply lA | apply lN | apply lD | refine lS ?_ ‹_›) | exact HB.out))) : w.heap.size ≤ gb172)); have n5_ := n4_; have n6_ := Aside0.mk ((by rw [hg]; exact Nat.ne_of_lt (blk_lt (g := gb170) (o := .cells #[.int .u64 a0_0, .int .u64 a0_1] 58 (0, 0)) (by (with_reducible repeat (first | apply bN | apply bD | apply bA)); exact BK170.out)) : gb170 ≠ gb172)); have n7_ := sy n6_; have n8_ := Aside0.mk ((by rw [hg]; exact Nat.ne_of_lt (blk_lt (g := gb171) (o := .cells #[.int .u64 a1_0, .int .u64 a1_1] 58 (0, 0)) (by (with_reducible repeat (first | apply bN | apply bD | apply bA)); exact BK171.out)) : gb171 ≠ gb172)); have n9_ := sy n8_; clear BK170; clear BK171; clear HB; have BK170 := n0_; have BK171 := n1_; have HB := n2_; have BK172 := n3_; have GW172 := n4_; have GE172 := n5_; have NB170_172 := n6_; have NB172_170 := n7_; have NB171_172 := n8_; have NB172_171 := n9_; clear n0_ n1_ n2_ n3_ n4_ n5_ n6_ n7_ n8_ n9_; clear hb hbox hg) | ((with_reducible refine gate_dst (N := 7) rfl ?_); refine box_event ?hg (N := 7) ?hd (cs := #[.int .u64 0, .int .u64 0]) (t := 58) ?hr ?_; (case hd => rfl); (case hg => rfl); (case hr => first | (go_simp; done) | (go_simp; rfl)); intro gb173 hg w91 hbox hb; have n0_ := Aside0.mk (blk_below (g := gb170) (o := .cells #[.int .u64 a0_0, .int .u64 a0_1] 58 (0, 0)) (by (with_reducible repeat (first | apply bN | apply bD | apply bA)); exact BK170.out) hb); have n1_ := Aside0.mk (blk_below (g := gb171) (o := .cells #[.int .u64 a1_0, .int .u64 a1_1] 58 (0, 0)) (by (with_reducible repeat (first | apply bN | apply bD | apply bA)); exact BK171.out) hb); have n2_ := Aside0.mk (blk_below (g := gb172) (o := .cells #[.int .u64 0, .int .u64 0] 58 (0, 0)) (by (with_reducible repeat (first | apply bN | apply bD | apply bA)); exact BK172.out) hb); have n3_ := Aside0.mk (below_step (by repeat (first | (with_reducible first | exact HB.out | apply lA | apply lN | apply lD | refine lS ?_ ‹_›) | exact HB.out)) hb); have n4_ := Aside0.mk (hbox); have n5_ := Aside0.mk ((by rw [hg]; exact (below_size (by repeat (first | (with_reducible first | exact HB.out | apply lA | apply lN | apply lD | refine lS ?_ ‹_›) | exact HB.out))) : w.heap.size ≤ gb173)); have n6_ := n5_; have n7_ := Aside0.mk ((by rw [hg]; exact Nat.ne_of_lt (blk_lt (g := gb170) (o := .cells #[.int .u64 a0_0, .int .u64 a0_1] 58 (0, 0)) (by (with_reducible repeat (first | apply bN | apply bD | apply bA)); exact BK170.out)) : gb170 ≠ gb173)); have n8_ := sy n7_; have n9_ := Aside0.mk ((by rw [hg]; exact Nat.ne_of_lt (blk_lt (g := gb171) (o := .cells #[.int .u64 a1_0, .int .u64 a1_1] 58 (0, 0)) (by (with_reducible repeat (first | apply bN | apply bD | apply bA)); exact BK171.out)) : gb171 ≠ gb173)); have n10_ := sy n9_; have n11_ := Aside0.mk ((by rw [hg]; exact Nat.ne_of_lt (blk_lt (g := gb172) (o := .cells #[.int .u64 0, .int .u64 0] 58 (0, 0)) (by (with_reducible repeat (first | apply bN | apply bD | apply bA)); exact BK172.out)) : gb172 ≠ gb173)); have n12_ := sy n11_; clear BK170; clear BK171; clear BK172; clear HB; have BK170 := n0_; have BK171 := n1_; have BK172 := n2_; have HB := n3_; have BK173 := n4_; have GW173 := n5_; have GE173 := n6_; have NB170_173 := n7_; have NB173_170 := n8_; have NB171_173 := n9_; have NB173_171 := n10_; have NB172_173 := n11_; have NB173_172 := n12_; clear n0_ n1_ n2_ n3_ n4_ n5_ n6_ n7_ n8_ n9_ n10_ n11_ n12_; clear hb hbox hg; have hnb92 := NB171_170.out; have hnc92 := NB170_171.out; have hnb93 := NB171_172.out; have hnc93 := NB172_171.out; have hnb94 := NB171_173.out; have hnc94 := NB173_171.out; have hcz95_0 : w91.cell? ⟨gb171, 0, none⟩ = some (.int .u64 a1_0) := (blk_cell BK171.out 0).trans rfl; have hcz95_1 : w91.cell? ⟨gb171, 1, none⟩ = some (.int .u64 a1_1) := (blk_cell BK171.out 1).trans rfl; have hfz95_0 := blk_frozen BK171.out 0; have hfz95_1 := blk_frozen BK171.out 1; have hnb96 := NB170_172.out; have hnc96 := NB172_170.out; have hnb97 := NB170_173.out; have hnc97 := NB173_170.out; have hcz98_0 : w91.cell? ⟨gb170, 0, none⟩ = some (.int .u64 a0_0) := (blk_cell BK170.out 0).trans rfl; have hcz98_1 : w91.cell? ⟨gb170, 1, none⟩ = some (.int .u64 a0_1) := (blk_cell BK170.out 1).trans rfl; have hfz98_0 := blk_frozen BK170.out 0; have hfz98_1 := blk_frozen BK170.out 1))
    have n0_ := Aside0.mk (blk_drew BK170.out); have n1_ := Aside0.mk (blk_drew BK171.out); have n2_ := Aside0.mk (blk_drew BK172.out); have n3_ := Aside0.mk (blk_drew BK173.out)
    have n4_ := Aside0.mk (below_drew1 HB.out)
    clear BK170; clear BK171; clear BK172; clear BK173; clear HB; have BK170 := n0_; have BK171 := n1_; have BK172 := n2_; have BK173 := n3_; have HB := n4_; clear n0_ n1_ n2_ n3_ n4_
    refine start_ (n := 5) (S := fun w' => w'.cell? ⟨gb170, 0, none⟩ = some (.int .u64 a0_0) ∧ w'.cell? ⟨gb170, 1, none⟩ = some (.int .u64 a0_1) ∧ w'.cell? ⟨gb171, 0, none⟩ = some (.int .u64 a1_0) ∧ w'.cell? ⟨gb171, 1, none⟩ = some (.int .u64 a1_1)) (ds := []) #[false, false, false, false, false] (by kernel_rfl) rfl rfl ⟨(blk_cell BK170.out 0).trans rfl, (blk_cell BK170.out 1).trans rfl, (blk_cell BK171.out 0).trans rfl, (blk_cell BK171.out 1).trans rfl⟩ (fun hHeld => ?_)
    generalize w91.drew = w99 at BK170 BK171 BK172 BK173 HB hHeld ⊢
    refine take_ (i := 0) (N := some 22) (v := ?_) (a' := ?_) #[true, false, false, false, false] rfl rfl (by kernel_rfl) (fun _ _ _ h => h) (Or.inl ⟨by rfl, ?_⟩) hHeld ?_ ?_
    rotate_left
    ·
     rintro w' ⟨s0, s1, s2, s3⟩
     go_simp; with_reducible rfl
    rotate_left
    ·
     simp only [Act.put, List.setIfInBounds_toArray, List.set_cons_zero, List.set_cons_succ, i64_w, i32_w]
     rfl
    refine take_ (i := 1) (N := some 23) (v := ?_) (a' := ?_) #[true, true, false, false, false] rfl rfl (by kernel_rfl) (fun _ _ _ h => h) (Or.inl ⟨by rfl, ?_⟩) hHeld ?_ ?_
    rotate_left
    ·
     rintro w' ⟨s0, s1, s2, s3⟩
     go_simp; with_reducible rfl
    rotate_left
    ·
     simp only [Act.put, List.setIfInBounds_toArray, List.set_cons_zero, List.set_cons_succ, i64_w, i32_w]
     rfl
    refine one_ (i := 2) (N := none) #[true, true, true, false, false] rfl rfl (by kernel_rfl) (by decide) (fun K hK => ?_)
    have hs100 : w99.cell? ⟨gb172, 0, none⟩ = some (.int .u64 0) := (blk_cell BK172.out 0).trans rfl
    have hfs100 := blk_frozen BK172.out 0
    have hns100_0 := NB170_172.out
    have hns100_1 := NB171_172.out
    have hns100_3 := NB173_172.out
    have hms100_0 := NB172_170.out
    have hms100_1 := NB172_171.out
    have hms100_3 := NB172_173.out
    have hs101 : w99.cell? ⟨gb172, 1, none⟩ = some (.int .u64 0) := (blk_cell BK172.out 1).trans rfl
    have hfs101 := blk_frozen BK172.out 1
    have hns101_0 := NB170_172.out
    have hns101_1 := NB171_172.out
    have hns101_3 := NB173_172.out
    have hms101_0 := NB172_170.out
    have hms101_1 := NB172_171.out
    have hms101_3 := NB172_173.out
    refine skip_ (w1 := ?_) (by rfl) rfl ?_ ?_
    rotate_left
    ·
     go_simp
     rfl
    refine hK.out _ _ ⟨((cell_far (p := ⟨gb172, _, none⟩) NB170_172.out _).trans (((cell_far (p := ⟨gb172, _, none⟩) NB170_172.out _).trans (hHeld.1)))), ((cell_far (p := ⟨gb172, _, none⟩) NB170_172.out _).trans (((cell_far (p := ⟨gb172, _, none⟩) NB170_172.out _).trans (hHeld.2.1)))), ((cell_far (p := ⟨gb172, _, none⟩) NB171_172.out _).trans (((cell_far (p := ⟨gb172, _, none⟩) NB171_172.out _).trans (hHeld.2.2.1)))), ((cell_far (p := ⟨gb172, _, none⟩) NB171_172.out _).trans (((cell_far (p := ⟨gb172, _, none⟩) NB171_172.out _).trans (hHeld.2.2.2))))⟩ (fun hHeld => ?_)
    clear hK K
    refine one_ (i := 3) (N := none) #[true, true, true, true, false] rfl rfl (by kernel_rfl) (by decide) (fun K hK => ?_)
    have hs102 : w99.cell? ⟨gb173, 0, none⟩ = some (.int .u64 0) := (blk_cell BK173.out 0).trans rfl
    have hfs102 := blk_frozen BK173.out 0
    have hns102_0 := NB170_173.out
    have hns102_1 := NB171_173.out
    have hns102_2 := NB172_173.out
    have hms102_0 := NB173_170.out
    have hms102_1 := NB173_171.out
    have hms102_2 := NB173_172.out
    have hs103 : w99.cell? ⟨gb173, 1, none⟩ = some (.int .u64 0) := (blk_cell BK173.out 1).trans rfl
    have hfs103 := blk_frozen BK173.out 1
    have hns103_0 := NB170_173.out
    have hns103_1 := NB171_173.out
    have hns103_2 := NB172_173.out
    have hms103_0 := NB173_170.out
    have hms103_1 := NB173_171.out
    have hms103_2 := NB173_172.out
    refine skip_ (w1 := ?_) (by rfl) rfl ?_ ?_
    rotate_left
    ·
     go_simp
     rfl
    refine hK.out _ _ ⟨((cell_far (p := ⟨gb173, _, none⟩) NB170_173.out _).trans (((cell_far (p := ⟨gb173, _, none⟩) NB170_173.out _).trans (hHeld.1)))), ((cell_far (p := ⟨gb173, _, none⟩) NB170_173.out _).trans (((cell_far (p := ⟨gb173, _, none⟩) NB170_173.out _).trans (hHeld.2.1)))), ((cell_far (p := ⟨gb173, _, none⟩) NB171_173.out _).trans (((cell_far (p := ⟨gb173, _, none⟩) NB171_173.out _).trans (hHeld.2.2.1)))), ((cell_far (p := ⟨gb173, _, none⟩) NB171_173.out _).trans (((cell_far (p := ⟨gb173, _, none⟩) NB171_173.out _).trans (hHeld.2.2.2))))⟩ (fun hHeld => ?_)
    clear hK K
    refine pure_ (i := 4) (N := some 8) (v := ?_) (a' := ?_) #[true, true, true, true, true] rfl rfl (by kernel_rfl) (fun _ _ _ h => h) (Or.inl ⟨by rfl, ?_⟩) ?_ ?_
    rotate_left
    ·
     intro w'
     go_simp; with_reducible rfl
    rotate_left
    ·
     simp only [Act.put, List.setIfInBounds_toArray, List.set_cons_zero, List.set_cons_succ, i64_w, i32_w]
     rfl
    refine done_ (by kernel_rfl) ?_
    try go_wp2
    refine bodyPost_ret (results_list (rs := [.cell 6 58, .cell 7 58, .tmp 8]) rfl (by simp) (.cell gb172 58 #[.int .u64 a0_0, .int .u64 a0_1] (0, 0) _ rfl (by (with_reducible repeat (first | apply bN | apply bD | apply bA)); refine blk_far ?_ NB172_173.out _; (with_reducible repeat (first | apply bN | apply bD | apply bA)); refine blk_far ?_ NB172_173.out _; (with_reducible repeat (first | apply bN | apply bD | apply bA)); refine blk_put (cs := #[.int .u64 a0_0, .int .u64 0]) ?_ 1 _ rfl; (with_reducible repeat (first | apply bN | apply bD | apply bA)); refine blk_put (cs := #[.int .u64 0, .int .u64 0]) ?_ 0 _ rfl; (with_reducible repeat (first | apply bN | apply bD | apply bA)); exact BK172.out) Try.underlying58 rfl (by kernel_rfl) (.cell gb173 58 #[.int .u64 a1_0, .int .u64 a1_1] (0, 0) _ rfl (by (with_reducible repeat (first | apply bN | apply bD | apply bA)); refine blk_put (cs := #[.int .u64 a1_0, .int .u64 0]) ?_ 1 _ rfl; (with_reducible repeat (first | apply bN | apply bD | apply bA)); refine blk_put (cs := #[.int .u64 0, .int .u64 0]) ?_ 0 _ rfl; (with_reducible repeat (first | apply bN | apply bD | apply bA)); refine blk_far ?_ NB173_172.out _; (with_reducible repeat (first | apply bN | apply bD | apply bA)); refine blk_far ?_ NB173_172.out _; (with_reducible repeat (first | apply bN | apply bD | apply bA)); exact BK173.out) Try.underlying58 rfl (by kernel_rfl) (.tmp .nil)))) rfl ?_
    exact ⟨by first | rfl | (simp [errW_none, errW_some] <;> rfl) | (simp [*, errW_none, errW_some] <;> rfl), by repeat (first | (with_reducible first | exact HB.out | apply lA | apply lN | apply lD | refine lS ?_ ‹_›) | exact HB.out)⟩
   ·
    rw [if_neg c87] at H
    have c87b0 : decide (18446744073709551614 < a0_0) = false := decide_eq_false c87; clear c87
    obtain ⟨ji104, hji104⟩ : ∃ j_ : Int, (mn a0_1 (IntKind.u64.wrap (a1_1 - 1))) = j_ := ⟨_, rfl⟩
    replace H : (if a0_0 ≤ (ji104) then (some (a0_0, ji104, mx a1_0 (IntKind.u64.wrap (a0_0 + 1)), a1_1, decide ((mx a1_0 (IntKind.u64.wrap (a0_0 + 1))) ≤ a1_1))) else (some (a0_0, ji104, mx a1_0 (IntKind.u64.wrap (a0_0 + 1)), a1_1, false))) = some (r1, r2, r3, r4, r5) := by first | (rw [hji104] at H; exact H) | (simp only [hji104] at H ⊢; exact H)
    have hji104_ : (if (IntKind.u64.wrap (a1_1 - 1)) < a0_1 then (IntKind.u64.wrap (a1_1 - 1)) else a0_1) = ji104 := hji104
    obtain ⟨ji105, hji105⟩ : ∃ j_ : Int, (mx a1_0 (IntKind.u64.wrap (a0_0 + 1))) = j_ := ⟨_, rfl⟩
    replace H : (if a0_0 ≤ (ji104) then (some (a0_0, ji104, ji105, a1_1, decide ((ji105) ≤ a1_1))) else (some (a0_0, ji104, ji105, a1_1, false))) = some (r1, r2, r3, r4, r5) := by first | (rw [hji105] at H; exact H) | (simp only [hji105] at H ⊢; exact H)
    have hji105_ : (if a1_0 < (IntKind.u64.wrap (a0_0 + 1)) then (IntKind.u64.wrap (a0_0 + 1)) else a1_0) = ji105 := hji105
    by_cases c106 : a0_0 ≤ (ji104)
    ·
     rw [if_pos c106] at H
     have c106b0 : decide (a0_0 ≤ (ji104)) = true := decide_eq_true c106; clear c106; simp only [Option.some.injEq, Prod.mk.injEq] at H; obtain ⟨rfl, rfl, rfl, rfl, rfl⟩ := H
     go_enter Try.func64, Try.ntmps64
     try go_wp2_with (first | ((with_reducible refine gate_dst (N := 3) rfl ?_); refine box_event ?hg (N := 3) ?hd (cs := #[.int .u64 a0_0, .int .u64 a0_1]) (t := 58) ?hr ?_; (case hd => rfl); (case hg => rfl); (case hr => first | (go_simp; done) | (go_simp; rfl)); intro gb170 hg w107 hbox hb; have n0_ := Aside0.mk (below_step (by repeat (first | (with_reducible first | exact HB.out | apply lA | apply lN | apply lD) | exact HB.out)) hb); have n1_ := Aside0.mk (hbox); have n2_ := Aside0.mk ((by rw [hg]; exact (below_size (by repeat (first | (with_reducible first | exact HB.out | apply lA | apply lN | apply lD) | exact HB.out))) : w.heap.size ≤ gb170)); have n3_ := n2_; clear HB; have HB := n0_; have BK170 := n1_; have GW170 := n2_; have GE170 := n3_; clear n0_ n1_ n2_ n3_; clear hb hbox hg) | ((with_reducible refine gate_dst (N := 4) rfl ?_); refine box_event ?hg (N := 4) ?hd (cs := #[.int .u64 a1_0, .int .u64 a1_1]) (t := 58) ?hr ?_; (case hd => rfl); (case hg => rfl); (case hr => first | (go_simp; done) | (go_simp; rfl)); intro gb171 hg w108 hbox hb; have n0_ := Aside0.mk (blk_below (g := gb170) (o := .cells #[.int .u64 a0_0, .int .u64 a0_1] 58 (0, 0)) (by (with_reducible repeat (first | apply bN | apply bD | apply bA)); exact BK170.out) hb); have n1_ := Aside0.mk (below_step (by repeat (first | (with_reducible first | exact HB.out | apply lA | apply lN | apply lD | refine lS ?_ ‹_›) | exact HB.out)) hb); have n2_ := Aside0.mk (hbox); have n3_ := Aside0.mk ((by rw [hg]; exact (below_size (by repeat (first | (with_reducible first | exact HB.out | apply lA | apply lN | apply lD | refine lS ?_ ‹_›) | exact HB.out))) : w.heap.size ≤ gb171)); have n4_ := n3_; have n5_ := Aside0.mk ((by rw [hg]; exact Nat.ne_of_lt (blk_lt (g := gb170) (o := .cells #[.int .u64 a0_0, .int .u64 a0_1] 58 (0, 0)) (by (with_reducible repeat (first | apply bN | apply bD | apply bA)); exact BK170.out)) : gb170 ≠ gb171)); have n6_ := sy n5_; clear BK170; clear HB; have BK170 := n0_; have HB := n1_; have BK171 := n2_; have GW171 := n3_; have GE171 := n4_; have NB170_171 := n5_; have NB171_170 := n6_; clear n0_ n1_ n2_ n3_ n4_ n5_ n6_; clear hb hbox hg) | ((with_reducible refine gate_dst (N := 6) rfl ?_); refine box_event ?hg (N := 6) ?hd (cs := #[.int .u64 0, .int .u64 0]) (t := 58) ?hr ?_; (case hd => rfl); (case hg => rfl); (case hr => first | (go_simp; done) | (go_simp; rfl)); intro gb172 hg w109 hbox hb; have n0_ := Aside0.mk (blk_below (g := gb170) (o := .cells #[.int .u64 a0_0, .int .u64 a0_1] 58 (0, 0)) (by (with_reducible repeat (first | apply bN | apply bD | apply bA)); exact BK170.out) hb); have n1_ := Aside0.mk (blk_below (g := gb171) (o := .cells #[.int .u64 a1_0, .int .u64 a1_1] 58 (0, 0)) (by (with_reducible repeat (first | apply bN | apply bD | apply bA)); exact BK171.out) hb); have n2_ := Aside0.mk (below_step (by repeat (first | (with_reducible first | exact HB.out | apply lA | apply lN | apply lD | refine lS ?_ ‹_›) | exact HB.out)) hb); have n3_ := Aside0.mk (hbox); have n4_ := Aside0.mk ((by rw [hg]; exact (below_size (by repeat (first | (with_reducible first | exact HB.out | apply lA | apply lN | apply lD | refine lS ?_ ‹_›) | exact HB.out))) : w.heap.size ≤ gb172)); have n5_ := n4_; have n6_ := Aside0.mk ((by rw [hg]; exact Nat.ne_of_lt (blk_lt (g := gb170) (o := .cells #[.int .u64 a0_0, .int .u64 a0_1] 58 (0, 0)) (by (with_reducible repeat (first | apply bN | apply bD | apply bA)); exact BK170.out)) : gb170 ≠ gb172)); have n7_ := sy n6_; have n8_ := Aside0.mk ((by rw [hg]; exact Nat.ne_of_lt (blk_lt (g := gb171) (o := .cells #[.int .u64 a1_0, .int .u64 a1_1] 58 (0, 0)) (by (with_reducible repeat (first | apply bN | apply bD | apply bA)); exact BK171.out)) : gb171 ≠ gb172)); have n9_ := sy n8_; clear BK170; clear BK171; clear HB; have BK170 := n0_; have BK171 := n1_; have HB := n2_; have BK172 := n3_; have GW172 := n4_; have GE172 := n5_; have NB170_172 := n6_; have NB172_170 := n7_; have NB171_172 := n8_; have NB172_171 := n9_; clear n0_ n1_ n2_ n3_ n4_ n5_ n6_ n7_ n8_ n9_; clear hb hbox hg) | ((with_reducible refine gate_dst (N := 7) rfl ?_); refine box_event ?hg (N := 7) ?hd (cs := #[.int .u64 0, .int .u64 0]) (t := 58) ?hr ?_; (case hd => rfl); (case hg => rfl); (case hr => first | (go_simp; done) | (go_simp; rfl)); intro gb173 hg w110 hbox hb; have n0_ := Aside0.mk (blk_below (g := gb170) (o := .cells #[.int .u64 a0_0, .int .u64 a0_1] 58 (0, 0)) (by (with_reducible repeat (first | apply bN | apply bD | apply bA)); exact BK170.out) hb); have n1_ := Aside0.mk (blk_below (g := gb171) (o := .cells #[.int .u64 a1_0, .int .u64 a1_1] 58 (0, 0)) (by (with_reducible repeat (first | apply bN | apply bD | apply bA)); exact BK171.out) hb); have n2_ := Aside0.mk (blk_below (g := gb172) (o := .cells #[.int .u64 0, .int .u64 0] 58 (0, 0)) (by (with_reducible repeat (first | apply bN | apply bD | apply bA)); exact BK172.out) hb); have n3_ := Aside0.mk (below_step (by repeat (first | (with_reducible first | exact HB.out | apply lA | apply lN | apply lD | refine lS ?_ ‹_›) | exact HB.out)) hb); have n4_ := Aside0.mk (hbox); have n5_ := Aside0.mk ((by rw [hg]; exact (below_size (by repeat (first | (with_reducible first | exact HB.out | apply lA | apply lN | apply lD | refine lS ?_ ‹_›) | exact HB.out))) : w.heap.size ≤ gb173)); have n6_ := n5_; have n7_ := Aside0.mk ((by rw [hg]; exact Nat.ne_of_lt (blk_lt (g := gb170) (o := .cells #[.int .u64 a0_0, .int .u64 a0_1] 58 (0, 0)) (by (with_reducible repeat (first | apply bN | apply bD | apply bA)); exact BK170.out)) : gb170 ≠ gb173)); have n8_ := sy n7_; have n9_ := Aside0.mk ((by rw [hg]; exact Nat.ne_of_lt (blk_lt (g := gb171) (o := .cells #[.int .u64 a1_0, .int .u64 a1_1] 58 (0, 0)) (by (with_reducible repeat (first | apply bN | apply bD | apply bA)); exact BK171.out)) : gb171 ≠ gb173)); have n10_ := sy n9_; have n11_ := Aside0.mk ((by rw [hg]; exact Nat.ne_of_lt (blk_lt (g := gb172) (o := .cells #[.int .u64 0, .int .u64 0] 58 (0, 0)) (by (with_reducible repeat (first | apply bN | apply bD | apply bA)); exact BK172.out)) : gb172 ≠ gb173)); have n12_ := sy n11_; clear BK170; clear BK171; clear BK172; clear HB; have BK170 := n0_; have BK171 := n1_; have BK172 := n2_; have HB := n3_; have BK173 := n4_; have GW173 := n5_; have GE173 := n6_; have NB170_173 := n7_; have NB173_170 := n8_; have NB171_173 := n9_; have NB173_171 := n10_; have NB172_173 := n11_; have NB173_172 := n12_; clear n0_ n1_ n2_ n3_ n4_ n5_ n6_ n7_ n8_ n9_ n10_ n11_ n12_; clear hb hbox hg; have hnb111 := NB171_170.out; have hnc111 := NB170_171.out; have hnb112 := NB171_172.out; have hnc112 := NB172_171.out; have hnb113 := NB171_173.out; have hnc113 := NB173_171.out; have hcz114_0 : w110.cell? ⟨gb171, 0, none⟩ = some (.int .u64 a1_0) := (blk_cell BK171.out 0).trans rfl; have hcz114_1 : w110.cell? ⟨gb171, 1, none⟩ = some (.int .u64 a1_1) := (blk_cell BK171.out 1).trans rfl; have hfz114_0 := blk_frozen BK171.out 0; have hfz114_1 := blk_frozen BK171.out 1; have hnb115 := NB170_172.out; have hnc115 := NB172_170.out; have hnb116 := NB170_173.out; have hnc116 := NB173_170.out; have hcz117_0 : w110.cell? ⟨gb170, 0, none⟩ = some (.int .u64 a0_0) := (blk_cell BK170.out 0).trans rfl; have hcz117_1 : w110.cell? ⟨gb170, 1, none⟩ = some (.int .u64 a0_1) := (blk_cell BK170.out 1).trans rfl; have hfz117_0 := blk_frozen BK170.out 0; have hfz117_1 := blk_frozen BK170.out 1))
     have n0_ : Aside0 (((w110.setCell ⟨gb170, 1, none⟩ (.int .u64 ji104)).setCell ⟨gb171, 0, none⟩ (.int .u64 ji105)).heap[gb170]? = some (.cells #[.int .u64 a0_0, .int .u64 ji104] 58 (0, 0))) := ⟨by (with_reducible repeat (first | apply bN | apply bD | apply bA)); refine blk_far ?_ NB170_171.out _; (with_reducible repeat (first | apply bN | apply bD | apply bA)); refine blk_put (cs := #[.int .u64 a0_0, .int .u64 a0_1]) ?_ 1 _ rfl; (with_reducible repeat (first | apply bN | apply bD | apply bA)); exact BK170.out⟩
     have n1_ : Aside0 (((w110.setCell ⟨gb170, 1, none⟩ (.int .u64 ji104)).setCell ⟨gb171, 0, none⟩ (.int .u64 ji105)).heap[gb171]? = some (.cells #[.int .u64 ji105, .int .u64 a1_1] 58 (0, 0))) := ⟨by (with_reducible repeat (first | apply bN | apply bD | apply bA)); refine blk_put (cs := #[.int .u64 a1_0, .int .u64 a1_1]) ?_ 0 _ rfl; (with_reducible repeat (first | apply bN | apply bD | apply bA)); refine blk_far ?_ NB171_170.out _; (with_reducible repeat (first | apply bN | apply bD | apply bA)); exact BK171.out⟩
     have n2_ : Aside0 (((w110.setCell ⟨gb170, 1, none⟩ (.int .u64 ji104)).setCell ⟨gb171, 0, none⟩ (.int .u64 ji105)).heap[gb172]? = some (.cells #[.int .u64 0, .int .u64 0] 58 (0, 0))) := ⟨by (with_reducible repeat (first | apply bN | apply bD | apply bA)); refine blk_far ?_ NB172_171.out _; (with_reducible repeat (first | apply bN | apply bD | apply bA)); refine blk_far ?_ NB172_170.out _; (with_reducible repeat (first | apply bN | apply bD | apply bA)); exact BK172.out⟩
     have n3_ : Aside0 (((w110.setCell ⟨gb170, 1, none⟩ (.int .u64 ji104)).setCell ⟨gb171, 0, none⟩ (.int .u64 ji105)).heap[gb173]? = some (.cells #[.int .u64 0, .int .u64 0] 58 (0, 0))) := ⟨by (with_reducible repeat (first | apply bN | apply bD | apply bA)); refine blk_far ?_ NB173_171.out _; (with_reducible repeat (first | apply bN | apply bD | apply bA)); refine blk_far ?_ NB173_170.out _; (with_reducible repeat (first | apply bN | apply bD | apply bA)); exact BK173.out⟩
     have n4_ : Aside0 (Below w.heap.size w ((w110.setCell ⟨gb170, 1, none⟩ (.int .u64 ji104)).setCell ⟨gb171, 0, none⟩ (.int .u64 ji105))) := ⟨by repeat (first | (with_reducible first | exact HB.out | apply lA | apply lN | apply lD | refine lS ?_ ‹_›) | exact HB.out)⟩
     (try clear BK170)
     (try clear BK171)
     (try clear BK172)
     (try clear BK173)
     (try clear HB)
     generalize ((w110.setCell ⟨gb170, 1, none⟩ (.int .u64 ji104)).setCell ⟨gb171, 0, none⟩ (.int .u64 ji105)) = w118 at n0_ n1_ n2_ n3_ n4_ ⊢
     have BK170 := n0_; have BK171 := n1_; have BK172 := n2_; have BK173 := n3_; have HB := n4_; clear n0_ n1_ n2_ n3_ n4_; have n0_ := Aside0.mk (blk_drew BK170.out); have n1_ := Aside0.mk (blk_drew BK171.out); have n2_ := Aside0.mk (blk_drew BK172.out); have n3_ := Aside0.mk (blk_drew BK173.out)
     have n4_ := Aside0.mk (below_drew1 HB.out)
     clear BK170; clear BK171; clear BK172; clear BK173; clear HB; have BK170 := n0_; have BK171 := n1_; have BK172 := n2_; have BK173 := n3_; have HB := n4_; clear n0_ n1_ n2_ n3_ n4_
     refine start_ (n := 17) (S := fun w' => w'.cell? ⟨gb170, 0, none⟩ = some (.int .u64 a0_0) ∧ w'.cell? ⟨gb170, 1, none⟩ = some (.int .u64 ji104) ∧ w'.cell? ⟨gb171, 0, none⟩ = some (.int .u64 ji105) ∧ w'.cell? ⟨gb171, 1, none⟩ = some (.int .u64 a1_1)) (ds := []) #[false, false, false, false, false, false, false, false, false, false, false, false, false, false, false, false, false] (by kernel_rfl) rfl rfl ⟨(blk_cell BK170.out 0).trans rfl, (blk_cell BK170.out 1).trans rfl, (blk_cell BK171.out 0).trans rfl, (blk_cell BK171.out 1).trans rfl⟩ (fun hHeld => ?_); refine with_tabW span_less.tab8 span_less.bits8 (fun HT_ HW_ => ?_)
     generalize w118.drew = w119 at BK170 BK171 BK172 BK173 HB hHeld ⊢
     refine pure_ (i := 2) (N := some 42) (v := ?_) (a' := ?_) #[false, false, true, false, false, false, false, false, false, false, false, false, false, false, false, false, false] rfl rfl (any_of HT_.out (by kernel_rfl)) (fun _ _ _ h => h) (Or.inl ⟨by rfl, ?_⟩) ?_ ?_
     rotate_left
     ·
      intro w'
      go_simp; with_reducible rfl
     rotate_left
     ·
      simp only [Act.put, List.setIfInBounds_toArray, List.set_cons_zero, List.set_cons_succ, i64_w, i32_w]
      rfl
     refine pure_ (i := 4) (N := some 44) (v := ?_) (a' := ?_) #[false, false, true, false, true, false, false, false, false, false, false, false, false, false, false, false, false] rfl rfl (any_of HT_.out (by kernel_rfl)) (fun _ _ _ h => h) (Or.inl ⟨by rfl, ?_⟩) ?_ ?_
     rotate_left
     ·
      intro w'
      go_simp; with_reducible rfl
     rotate_left
     ·
      simp only [Act.put, List.setIfInBounds_toArray, List.set_cons_zero, List.set_cons_succ, i64_w, i32_w]
      rfl
     refine take_ (i := 0) (N := some 40) (v := ?_) (a' := ?_) #[true, false, true, false, true, false, false, false, false, false, false, false, false, false, false, false, false] rfl rfl (take_ofW HT_.out HW_.out (by kernel_rfl)) (fun _ _ _ h => h) (Or.inl ⟨by rfl, ?_⟩) hHeld ?_ ?_
     rotate_left
     ·
      rintro w' ⟨s0, s1, s2, s3⟩
      go_simp; with_reducible rfl
     rotate_left
     ·
      simp only [Act.put, List.setIfInBounds_toArray, List.set_cons_zero, List.set_cons_succ, i64_w, i32_w]
      rfl
     refine take_ (i := 1) (N := some 41) (v := ?_) (a' := ?_) #[true, true, true, false, true, false, false, false, false, false, false, false, false, false, false, false, false] rfl rfl (take_ofW HT_.out HW_.out (by kernel_rfl)) (fun _ _ _ h => h) (Or.inl ⟨by rfl, ?_⟩) hHeld ?_ ?_
     rotate_left
     ·
      rintro w' ⟨s0, s1, s2, s3⟩
      go_simp; with_reducible rfl
     rotate_left
     ·
      simp only [Act.put, List.setIfInBounds_toArray, List.set_cons_zero, List.set_cons_succ, i64_w, i32_w]
      rfl
     refine take_ (i := 3) (N := some 43) (v := ?_) (a' := ?_) #[true, true, true, true, true, false, false, false, false, false, false, false, false, false, false, false, false] rfl rfl (take_ofW HT_.out HW_.out (by kernel_rfl)) (fun _ _ _ h => h) (Or.inl ⟨by rfl, ?_⟩) hHeld ?_ ?_
     rotate_left
     ·
      rintro w' ⟨s0, s1, s2, s3⟩
      go_simp; with_reducible rfl
     rotate_left
     ·
      simp only [Act.put, List.setIfInBounds_toArray, List.set_cons_zero, List.set_cons_succ, i64_w, i32_w]
      rfl
     refine take_ (i := 5) (N := some 45) (v := ?_) (a' := ?_) #[true, true, true, true, true, true, false, false, false, false, false, false, false, false, false, false, false] rfl rfl (take_ofW HT_.out HW_.out (by kernel_rfl)) (fun _ _ _ h => h) (Or.inl ⟨by rfl, ?_⟩) hHeld ?_ ?_
     rotate_left
     ·
      rintro w' ⟨s0, s1, s2, s3⟩
      go_simp; with_reducible rfl
     rotate_left
     ·
      simp only [Act.put, List.setIfInBounds_toArray, List.set_cons_zero, List.set_cons_succ, i64_w, i32_w]
      rfl
     refine pure_ (i := 6) (N := some 46) (v := ?_) (a' := ?_) #[true, true, true, true, true, true, true, false, false, false, false, false, false, false, false, false, false] rfl rfl (any_of HT_.out (by kernel_rfl)) (fun _ _ _ h => h) (Or.inl ⟨by rfl, ?_⟩) ?_ ?_
     rotate_left
     ·
      intro w'
      go_simp; with_reducible rfl
     rotate_left
     ·
      simp only [Act.put, List.setIfInBounds_toArray, List.set_cons_zero, List.set_cons_succ, i64_w, i32_w]
      rfl
     refine pure_ (i := 7) (N := some 47) (v := ?_) (a' := ?_) #[true, true, true, true, true, true, true, true, false, false, false, false, false, false, false, false, false] rfl rfl (any_of HT_.out (by kernel_rfl)) (fun _ _ _ h => h) (Or.inl ⟨by rfl, ?_⟩) ?_ ?_
     rotate_left
     ·
      intro w'
      go_simp; with_reducible rfl
     rotate_left
     ·
      simp only [Act.put, List.setIfInBounds_toArray, List.set_cons_zero, List.set_cons_succ, i64_w, i32_w]
      rfl
     refine pure_ (i := 8) (N := some 48) (v := ?_) (a' := ?_) #[true, true, true, true, true, true, true, true, true, false, false, false, false, false, false, false, false] rfl rfl (any_of HT_.out (by kernel_rfl)) (fun _ _ _ h => h) (Or.inl ⟨by rfl, ?_⟩) ?_ ?_
     rotate_left
     ·
      intro w'
      go_simp; with_reducible rfl
     rotate_left
     ·
      simp only [Act.put, List.setIfInBounds_toArray, List.set_cons_zero, List.set_cons_succ, i64_w, i32_w]
      rfl
     refine pure_ (i := 10) (N := some 50) (v := ?_) (a' := ?_) #[true, true, true, true, true, true, true, true, true, false, true, false, false, false, false, false, false] rfl rfl (any_of HT_.out (by kernel_rfl)) (fun _ _ _ h => h) (Or.inl ⟨by rfl, ?_⟩) ?_ ?_
     rotate_left
     ·
      intro w'
      go_simp; with_reducible rfl
     rotate_left
     ·
      simp only [Act.put, List.setIfInBounds_toArray, List.set_cons_zero, List.set_cons_succ, i64_w, i32_w]
      rfl
     refine take_ (i := 9) (N := some 49) (v := ?_) (a' := ?_) #[true, true, true, true, true, true, true, true, true, true, true, false, false, false, false, false, false] rfl rfl (take_ofW HT_.out HW_.out (by kernel_rfl)) (fun _ _ _ h => h) (Or.inl ⟨by rfl, ?_⟩) hHeld ?_ ?_
     rotate_left
     ·
      rintro w' ⟨s0, s1, s2, s3⟩
      go_simp; with_reducible rfl
     rotate_left
     ·
      simp only [Act.put, List.setIfInBounds_toArray, List.set_cons_zero, List.set_cons_succ, i64_w, i32_w]
      rfl
     refine take_ (i := 11) (N := some 51) (v := ?_) (a' := ?_) #[true, true, true, true, true, true, true, true, true, true, true, true, false, false, false, false, false] rfl rfl (take_ofW HT_.out HW_.out (by kernel_rfl)) (fun _ _ _ h => h) (Or.inl ⟨by rfl, ?_⟩) hHeld ?_ ?_
     rotate_left
     ·
      rintro w' ⟨s0, s1, s2, s3⟩
      go_simp; with_reducible rfl
     rotate_left
     ·
      simp only [Act.put, List.setIfInBounds_toArray, List.set_cons_zero, List.set_cons_succ, i64_w, i32_w]
      rfl
     refine pure_ (i := 12) (N := some 52) (v := ?_) (a' := ?_) #[true, true, true, true, true, true, true, true, true, true, true, true, true, false, false, false, false] rfl rfl (any_of HT_.out (by kernel_rfl)) (fun _ _ _ h => h) (Or.inl ⟨by rfl, ?_⟩) ?_ ?_
     rotate_left
     ·
      intro w'
      go_simp; with_reducible rfl
     rotate_left
     ·
      simp only [Act.put, List.setIfInBounds_toArray, List.set_cons_zero, List.set_cons_succ, i64_w, i32_w]
      rfl
     refine pure_ (i := 13) (N := some 53) (v := ?_) (a' := ?_) #[true, true, true, true, true, true, true, true, true, true, true, true, true, true, false, false, false] rfl rfl (any_of HT_.out (by kernel_rfl)) (fun _ _ _ h => h) (Or.inl ⟨by rfl, ?_⟩) ?_ ?_
     rotate_left
     ·
      intro w'
      go_simp; with_reducible rfl
     rotate_left
     ·
      simp only [Act.put, List.setIfInBounds_toArray, List.set_cons_zero, List.set_cons_succ, i64_w, i32_w]
      rfl
     refine one_ (i := 14) (N := none) #[true, true, true, true, true, true, true, true, true, true, true, true, true, true, true, false, false] rfl rfl (one_of HT_.out (by kernel_rfl)) (by decide) (fun K hK => ?_)
     have hs120 : w119.cell? ⟨gb172, 0, none⟩ = some (.int .u64 0) := (blk_cell BK172.out 0).trans rfl
     have hfs120 := blk_frozen BK172.out 0
     have hns120_0 := NB170_172.out
     have hns120_1 := NB171_172.out
     have hns120_3 := NB173_172.out
     have hms120_0 := NB172_170.out
     have hms120_1 := NB172_171.out
     have hms120_3 := NB172_173.out
     have hs121 : w119.cell? ⟨gb172, 1, none⟩ = some (.int .u64 0) := (blk_cell BK172.out 1).trans rfl
     have hfs121 := blk_frozen BK172.out 1
     have hns121_0 := NB170_172.out
     have hns121_1 := NB171_172.out
     have hns121_3 := NB173_172.out
     have hms121_0 := NB172_170.out
     have hms121_1 := NB172_171.out
     have hms121_3 := NB172_173.out
     refine skip_ (w1 := ?_) (by rfl) rfl ?_ ?_
     rotate_left
     ·
      go_simp
      rfl
     refine hK.out _ _ ⟨((cell_far (p := ⟨gb172, _, none⟩) NB170_172.out _).trans (((cell_far (p := ⟨gb172, _, none⟩) NB170_172.out _).trans (hHeld.1)))), ((cell_far (p := ⟨gb172, _, none⟩) NB170_172.out _).trans (((cell_far (p := ⟨gb172, _, none⟩) NB170_172.out _).trans (hHeld.2.1)))), ((cell_far (p := ⟨gb172, _, none⟩) NB171_172.out _).trans (((cell_far (p := ⟨gb172, _, none⟩) NB171_172.out _).trans (hHeld.2.2.1)))), ((cell_far (p := ⟨gb172, _, none⟩) NB171_172.out _).trans (((cell_far (p := ⟨gb172, _, none⟩) NB171_172.out _).trans (hHeld.2.2.2))))⟩ (fun hHeld => ?_)
     clear hK K
     refine one_ (i := 15) (N := none) #[true, true, true, true, true, true, true, true, true, true, true, true, true, true, true, true, false] rfl rfl (one_of HT_.out (by kernel_rfl)) (by decide) (fun K hK => ?_)
     have hs122 : w119.cell? ⟨gb173, 0, none⟩ = some (.int .u64 0) := (blk_cell BK173.out 0).trans rfl
     have hfs122 := blk_frozen BK173.out 0
     have hns122_0 := NB170_173.out
     have hns122_1 := NB171_173.out
     have hns122_2 := NB172_173.out
     have hms122_0 := NB173_170.out
     have hms122_1 := NB173_171.out
     have hms122_2 := NB173_172.out
     have hs123 : w119.cell? ⟨gb173, 1, none⟩ = some (.int .u64 0) := (blk_cell BK173.out 1).trans rfl
     have hfs123 := blk_frozen BK173.out 1
     have hns123_0 := NB170_173.out
     have hns123_1 := NB171_173.out
     have hns123_2 := NB172_173.out
     have hms123_0 := NB173_170.out
     have hms123_1 := NB173_171.out
     have hms123_2 := NB173_172.out
     refine skip_ (w1 := ?_) (by rfl) rfl ?_ ?_
     rotate_left
     ·
      go_simp
      rfl
     refine hK.out _ _ ⟨((cell_far (p := ⟨gb173, _, none⟩) NB170_173.out _).trans (((cell_far (p := ⟨gb173, _, none⟩) NB170_173.out _).trans (hHeld.1)))), ((cell_far (p := ⟨gb173, _, none⟩) NB170_173.out _).trans (((cell_far (p := ⟨gb173, _, none⟩) NB170_173.out _).trans (hHeld.2.1)))), ((cell_far (p := ⟨gb173, _, none⟩) NB171_173.out _).trans (((cell_far (p := ⟨gb173, _, none⟩) NB171_173.out _).trans (hHeld.2.2.1)))), ((cell_far (p := ⟨gb173, _, none⟩) NB171_173.out _).trans (((cell_far (p := ⟨gb173, _, none⟩) NB171_173.out _).trans (hHeld.2.2.2))))⟩ (fun hHeld => ?_)
     clear hK K
     refine pure_ (i := 16) (N := some 8) (v := ?_) (a' := ?_) #[true, true, true, true, true, true, true, true, true, true, true, true, true, true, true, true, true] rfl rfl (any_of HT_.out (by kernel_rfl)) (fun _ _ _ h => h) (Or.inl ⟨by rfl, ?_⟩) ?_ ?_
     rotate_left
     ·
      intro w'
      go_simp; with_reducible rfl
     rotate_left
     ·
      simp only [Act.put, List.setIfInBounds_toArray, List.set_cons_zero, List.set_cons_succ, i64_w, i32_w]
      rfl
     refine done_ (done_of HT_.out (by kernel_rfl)) ?_
     try go_wp2
     refine bodyPost_ret (results_list (rs := [.cell 6 58, .cell 7 58, .tmp 8]) rfl (by simp) (.cell gb172 58 #[.int .u64 a0_0, .int .u64 ji104] (0, 0) _ rfl (by (with_reducible repeat (first | apply bN | apply bD | apply bA)); refine blk_far ?_ NB172_173.out _; (with_reducible repeat (first | apply bN | apply bD | apply bA)); refine blk_far ?_ NB172_173.out _; (with_reducible repeat (first | apply bN | apply bD | apply bA)); refine blk_put (cs := #[.int .u64 a0_0, .int .u64 0]) ?_ 1 _ rfl; (with_reducible repeat (first | apply bN | apply bD | apply bA)); refine blk_put (cs := #[.int .u64 0, .int .u64 0]) ?_ 0 _ rfl; (with_reducible repeat (first | apply bN | apply bD | apply bA)); exact BK172.out) Try.underlying58 rfl (by kernel_rfl) (.cell gb173 58 #[.int .u64 ji105, .int .u64 a1_1] (0, 0) _ rfl (by (with_reducible repeat (first | apply bN | apply bD | apply bA)); refine blk_put (cs := #[.int .u64 ji105, .int .u64 0]) ?_ 1 _ rfl; (with_reducible repeat (first | apply bN | apply bD | apply bA)); refine blk_put (cs := #[.int .u64 0, .int .u64 0]) ?_ 0 _ rfl; (with_reducible repeat (first | apply bN | apply bD | apply bA)); refine blk_far ?_ NB173_172.out _; (with_reducible repeat (first | apply bN | apply bD | apply bA)); refine blk_far ?_ NB173_172.out _; (with_reducible repeat (first | apply bN | apply bD | apply bA)); exact BK173.out) Try.underlying58 rfl (by kernel_rfl) (.tmp .nil)))) rfl ?_
     exact ⟨by first | rfl | (simp [errW_none, errW_some] <;> rfl) | (simp only [← hji104, ← hji105]; first | rfl | (simp [errW_none, errW_some] <;> rfl)) | (simp [*, errW_none, errW_some] <;> rfl), by repeat (first | (with_reducible first | exact HB.out | apply lA | apply lN | apply lD | refine lS ?_ ‹_›) | exact HB.out)⟩
    ·
     rw [if_neg c106] at H
     have c106b0 : decide (a0_0 ≤ (ji104)) = false := decide_eq_false c106; clear c106; simp only [Option.some.injEq, Prod.mk.injEq] at H; obtain ⟨rfl, rfl, rfl, rfl, rfl⟩ := H
     go_enter Try.func64, Try.ntmps64
     try go_wp2_with (first | ((with_reducible refine gate_dst (N := 3) rfl ?_); refine box_event ?hg (N := 3) ?hd (cs := #[.int .u64 a0_0, .int .u64 a0_1]) (t := 58) ?hr ?_; (case hd => rfl); (case hg => rfl); (case hr => first | (go_simp; done) | (go_simp; rfl)); intro gb170 hg w124 hbox hb; have n0_ := Aside0.mk (below_step (by repeat (first | (with_reducible first | exact HB.out | apply lA | apply lN | apply lD) | exact HB.out)) hb); have n1_ := Aside0.mk (hbox); have n2_ := Aside0.mk ((by rw [hg]; exact (below_size (by repeat (first | (with_reducible first | exact HB.out | apply lA | apply lN | apply lD) | exact HB.out))) : w.heap.size ≤ gb170)); have n3_ := n2_; clear HB; have HB := n0_; have BK170 := n1_; have GW170 := n2_; have GE170 := n3_; clear n0_ n1_ n2_ n3_; clear hb hbox hg) | ((with_reducible refine gate_dst (N := 4) rfl ?_); refine box_event ?hg (N := 4) ?hd (cs := #[.int .u64 a1_0, .int .u64 a1_1]) (t := 58) ?hr ?_; (case hd => rfl); (case hg => rfl); (case hr => first | (go_simp; done) | (go_simp; rfl)); intro gb171 hg w125 hbox hb; have n0_ := Aside0.mk (blk_below (g := gb170) (o := .cells #[.int .u64 a0_0, .int .u64 a0_1] 58 (0, 0)) (by (with_reducible repeat (first | apply bN | apply bD | apply bA)); exact BK170.out) hb); have n1_ := Aside0.mk (below_step (by repeat (first | (with_reducible first | exact HB.out | apply lA | apply lN | apply lD | refine lS ?_ ‹_›) | exact HB.out)) hb); have n2_ := Aside0.mk (hbox); have n3_ := Aside0.mk ((by rw [hg]; exact (below_size (by repeat (first | (with_reducible first | exact HB.out | apply lA | apply lN | apply lD | refine lS ?_ ‹_›) | exact HB.out))) : w.heap.size ≤ gb171)); have n4_ := n3_; have n5_ := Aside0.mk ((by rw [hg]; exact Nat.ne_of_lt (blk_lt (g := gb170) (o := .cells #[.int .u64 a0_0, .int .u64 a0_1] 58 (0, 0)) (by (with_reducible repeat (first | apply bN | apply bD | apply bA)); exact BK170.out)) : gb170 ≠ gb171)); have n6_ := sy n5_; clear BK170; clear HB; have BK170 := n0_; have HB := n1_; have BK171 := n2_; have GW171 := n3_; have GE171 := n4_; have NB170_171 := n5_; have NB171_170 := n6_; clear n0_ n1_ n2_ n3_ n4_ n5_ n6_; clear hb hbox hg) | ((with_reducible refine gate_dst (N := 6) rfl ?_); refine box_event ?hg (N := 6) ?hd (cs := #[.int .u64 0, .int .u64 0]) (t := 58) ?hr ?_; (case hd => rfl); (case hg => rfl); (case hr => first | (go_simp; done) | (go_simp; rfl)); intro gb172 hg w126 hbox hb; have n0_ := Aside0.mk (blk_below (g := gb170) (o := .cells #[.int .u64 a0_0, .int .u64 a0_1] 58 (0, 0)) (by (with_reducible repeat (first | apply bN | apply bD | apply bA)); exact BK170.out) hb); have n1_ := Aside0.mk (blk_below (g := gb171) (o := .cells #[.int .u64 a1_0, .int .u64 a1_1] 58 (0, 0)) (by (with_reducible repeat (first | apply bN | apply bD | apply bA)); exact BK171.out) hb); have n2_ := Aside0.mk (below_step (by repeat (first | (with_reducible first | exact HB.out | apply lA | apply lN | apply lD | refine lS ?_ ‹_›) | exact HB.out)) hb); have n3_ := Aside0.mk (hbox); have n4_ := Aside0.mk ((by rw [hg]; exact (below_size (by repeat (first | (with_reducible first | exact HB.out | apply lA | apply lN | apply lD | refine lS ?_ ‹_›) | exact HB.out))) : w.heap.size ≤ gb172)); have n5_ := n4_; have n6_ := Aside0.mk ((by rw [hg]; exact Nat.ne_of_lt (blk_lt (g := gb170) (o := .cells #[.int .u64 a0_0, .int .u64 a0_1] 58 (0, 0)) (by (with_reducible repeat (first | apply bN | apply bD | apply bA)); exact BK170.out)) : gb170 ≠ gb172)); have n7_ := sy n6_; have n8_ := Aside0.mk ((by rw [hg]; exact Nat.ne_of_lt (blk_lt (g := gb171) (o := .cells #[.int .u64 a1_0, .int .u64 a1_1] 58 (0, 0)) (by (with_reducible repeat (first | apply bN | apply bD | apply bA)); exact BK171.out)) : gb171 ≠ gb172)); have n9_ := sy n8_; clear BK170; clear BK171; clear HB; have BK170 := n0_; have BK171 := n1_; have HB := n2_; have BK172 := n3_; have GW172 := n4_; have GE172 := n5_; have NB170_172 := n6_; have NB172_170 := n7_; have NB171_172 := n8_; have NB172_171 := n9_; clear n0_ n1_ n2_ n3_ n4_ n5_ n6_ n7_ n8_ n9_; clear hb hbox hg) | ((with_reducible refine gate_dst (N := 7) rfl ?_); refine box_event ?hg (N := 7) ?hd (cs := #[.int .u64 0, .int .u64 0]) (t := 58) ?hr ?_; (case hd => rfl); (case hg => rfl); (case hr => first | (go_simp; done) | (go_simp; rfl)); intro gb173 hg w127 hbox hb; have n0_ := Aside0.mk (blk_below (g := gb170) (o := .cells #[.int .u64 a0_0, .int .u64 a0_1] 58 (0, 0)) (by (with_reducible repeat (first | apply bN | apply bD | apply bA)); exact BK170.out) hb); have n1_ := Aside0.mk (blk_below (g := gb171) (o := .cells #[.int .u64 a1_0, .int .u64 a1_1] 58 (0, 0)) (by (with_reducible repeat (first | apply bN | apply bD | apply bA)); exact BK171.out) hb); have n2_ := Aside0.mk (blk_below (g := gb172) (o := .cells #[.int .u64 0, .int .u64 0] 58 (0, 0)) (by (with_reducible repeat (first | apply bN | apply bD | apply bA)); exact BK172.out) hb); have n3_ := Aside0.mk (below_step (by repeat (first | (with_reducible first | exact HB.out | apply lA | apply lN | apply lD | refine lS ?_ ‹_›) | exact HB.out)) hb); have n4_ := Aside0.mk (hbox); have n5_ := Aside0.mk ((by rw [hg]; exact (below_size (by repeat (first | (with_reducible first | exact HB.out | apply lA | apply lN | apply lD | refine lS ?_ ‹_›) | exact HB.out))) : w.heap.size ≤ gb173)); have n6_ := n5_; have n7_ := Aside0.mk ((by rw [hg]; exact Nat.ne_of_lt (blk_lt (g := gb170) (o := .cells #[.int .u64 a0_0, .int .u64 a0_1] 58 (0, 0)) (by (with_reducible repeat (first | apply bN | apply bD | apply bA)); exact BK170.out)) : gb170 ≠ gb173)); have n8_ := sy n7_; have n9_ := Aside0.mk ((by rw [hg]; exact Nat.ne_of_lt (blk_lt (g := gb171) (o := .cells #[.int .u64 a1_0, .int .u64 a1_1] 58 (0, 0)) (by (with_reducible repeat (first | apply bN | apply bD | apply bA)); exact BK171.out)) : gb171 ≠ gb173)); have n10_ := sy n9_; have n11_ := Aside0.mk ((by rw [hg]; exact Nat.ne_of_lt (blk_lt (g := gb172) (o := .cells #[.int .u64 0, .int .u64 0] 58 (0, 0)) (by (with_reducible repeat (first | apply bN | apply bD | apply bA)); exact BK172.out)) : gb172 ≠ gb173)); have n12_ := sy n11_; clear BK170; clear BK171; clear BK172; clear HB; have BK170 := n0_; have BK171 := n1_; have BK172 := n2_; have HB := n3_; have BK173 := n4_; have GW173 := n5_; have GE173 := n6_; have NB170_173 := n7_; have NB173_170 := n8_; have NB171_173 := n9_; have NB173_171 := n10_; have NB172_173 := n11_; have NB173_172 := n12_; clear n0_ n1_ n2_ n3_ n4_ n5_ n6_ n7_ n8_ n9_ n10_ n11_ n12_; clear hb hbox hg; have hnb128 := NB171_170.out; have hnc128 := NB170_171.out; have hnb129 := NB171_172.out; have hnc129 := NB172_171.out; have hnb130 := NB171_173.out; have hnc130 := NB173_171.out; have hcz131_0 : w127.cell? ⟨gb171, 0, none⟩ = some (.int .u64 a1_0) := (blk_cell BK171.out 0).trans rfl; have hcz131_1 : w127.cell? ⟨gb171, 1, none⟩ = some (.int .u64 a1_1) := (blk_cell BK171.out 1).trans rfl; have hfz131_0 := blk_frozen BK171.out 0; have hfz131_1 := blk_frozen BK171.out 1; have hnb132 := NB170_172.out; have hnc132 := NB172_170.out; have hnb133 := NB170_173.out; have hnc133 := NB173_170.out; have hcz134_0 : w127.cell? ⟨gb170, 0, none⟩ = some (.int .u64 a0_0) := (blk_cell BK170.out 0).trans rfl; have hcz134_1 : w127.cell? ⟨gb170, 1, none⟩ = some (.int .u64 a0_1) := (blk_cell BK170.out 1).trans rfl; have hfz134_0 := blk_frozen BK170.out 0; have hfz134_1 := blk_frozen BK170.out 1))
     have n0_ : Aside0 (((w127.setCell ⟨gb170, 1, none⟩ (.int .u64 ji104)).setCell ⟨gb171, 0, none⟩ (.int .u64 ji105)).heap[gb170]? = some (.cells #[.int .u64 a0_0, .int .u64 ji104] 58 (0, 0))) := ⟨by (with_reducible repeat (first | apply bN | apply bD | apply bA)); refine blk_far ?_ NB170_171.out _; (with_reducible repeat (first | apply bN | apply bD | apply bA)); refine blk_put (cs := #[.int .u64 a0_0, .int .u64 a0_1]) ?_ 1 _ rfl; (with_reducible repeat (first | apply bN | apply bD | apply bA)); exact BK170.out⟩
     have n1_ : Aside0 (((w127.setCell ⟨gb170, 1, none⟩ (.int .u64 ji104)).setCell ⟨gb171, 0, none⟩ (.int .u64 ji105)).heap[gb171]? = some (.cells #[.int .u64 ji105, .int .u64 a1_1] 58 (0, 0))) := ⟨by (with_reducible repeat (first | apply bN | apply bD | apply bA)); refine blk_put (cs := #[.int .u64 a1_0, .int .u64 a1_1]) ?_ 0 _ rfl; (with_reducible repeat (first | apply bN | apply bD | apply bA)); refine blk_far ?_ NB171_170.out _; (with_reducible repeat (first | apply bN | apply bD | apply bA)); exact BK171.out⟩
     have n2_ : Aside0 (((w127.setCell ⟨gb170, 1, none⟩ (.int .u64 ji104)).setCell ⟨gb171, 0, none⟩ (.int .u64 ji105)).heap[gb172]? = some (.cells #[.int .u64 0, .int .u64 0] 58 (0, 0))) := ⟨by (with_reducible repeat (first | apply bN | apply bD | apply bA)); refine blk_far ?_ NB172_171.out _; (with_reducible repeat (first | apply bN | apply bD | apply bA)); refine blk_far ?_ NB172_170.out _; (with_reducible repeat (first | apply bN | apply bD | apply bA)); exact BK172.out⟩
     have n3_ : Aside0 (((w127.setCell ⟨gb170, 1, none⟩ (.int .u64 ji104)).setCell ⟨gb171, 0, none⟩ (.int .u64 ji105)).heap[gb173]? = some (.cells #[.int .u64 0, .int .u64 0] 58 (0, 0))) := ⟨by (with_reducible repeat (first | apply bN | apply bD | apply bA)); refine blk_far ?_ NB173_171.out _; (with_reducible repeat (first | apply bN | apply bD | apply bA)); refine blk_far ?_ NB173_170.out _; (with_reducible repeat (first | apply bN | apply bD | apply bA)); exact BK173.out⟩
     have n4_ : Aside0 (Below w.heap.size w ((w127.setCell ⟨gb170, 1, none⟩ (.int .u64 ji104)).setCell ⟨gb171, 0, none⟩ (.int .u64 ji105))) := ⟨by repeat (first | (with_reducible first | exact HB.out | apply lA | apply lN | apply lD | refine lS ?_ ‹_›) | exact HB.out)⟩
     (try clear BK170)
     (try clear BK171)
     (try clear BK172)
     (try clear BK173)
     (try clear HB)
     generalize ((w127.setCell ⟨gb170, 1, none⟩ (.int .u64 ji104)).setCell ⟨gb171, 0, none⟩ (.int .u64 ji105)) = w135 at n0_ n1_ n2_ n3_ n4_ ⊢
     have BK170 := n0_; have BK171 := n1_; have BK172 := n2_; have BK173 := n3_; have HB := n4_; clear n0_ n1_ n2_ n3_ n4_; have n0_ := Aside0.mk (blk_drew BK170.out); have n1_ := Aside0.mk (blk_drew BK171.out); have n2_ := Aside0.mk (blk_drew BK172.out); have n3_ := Aside0.mk (blk_drew BK173.out)
     have n4_ := Aside0.mk (below_drew1 HB.out)
     clear BK170; clear BK171; clear BK172; clear BK173; clear HB; have BK170 := n0_; have BK171 := n1_; have BK172 := n2_; have BK173 := n3_; have HB := n4_; clear n0_ n1_ n2_ n3_ n4_
     refine start_ (n := 17) (S := fun w' => w'.cell? ⟨gb170, 0, none⟩ = some (.int .u64 a0_0) ∧ w'.cell? ⟨gb170, 1, none⟩ = some (.int .u64 ji104) ∧ w'.cell? ⟨gb171, 0, none⟩ = some (.int .u64 ji105) ∧ w'.cell? ⟨gb171, 1, none⟩ = some (.int .u64 a1_1)) (ds := []) #[false, false, false, false, false, false, false, false, false, false, false, false, false, false, false, false, false] (by kernel_rfl) rfl rfl ⟨(blk_cell BK170.out 0).trans rfl, (blk_cell BK170.out 1).trans rfl, (blk_cell BK171.out 0).trans rfl, (blk_cell BK171.out 1).trans rfl⟩ (fun hHeld => ?_); refine with_tabW span_less.tab8 span_less.bits8 (fun HT_ HW_ => ?_)
     generalize w135.drew = w136 at BK170 BK171 BK172 BK173 HB hHeld ⊢
     refine pure_ (i := 2) (N := some 42) (v := ?_) (a' := ?_) #[false, false, true, false, false, false, false, false, false, false, false, false, false, false, false, false, false] rfl rfl (any_of HT_.out (by kernel_rfl)) (fun _ _ _ h => h) (Or.inl ⟨by rfl, ?_⟩) ?_ ?_
     rotate_left
     ·
      intro w'
      go_simp; with_reducible rfl
     rotate_left
     ·
      simp only [Act.put, List.setIfInBounds_toArray, List.set_cons_zero, List.set_cons_succ, i64_w, i32_w]
      rfl
     refine pure_ (i := 4) (N := some 44) (v := ?_) (a' := ?_) #[false, false, true, false, true, false, false, false, false, false, false, false, false, false, false, false, false] rfl rfl (any_of HT_.out (by kernel_rfl)) (fun _ _ _ h => h) (Or.inl ⟨by rfl, ?_⟩) ?_ ?_
     rotate_left
     ·
      intro w'
      go_simp; with_reducible rfl
     rotate_left
     ·
      simp only [Act.put, List.setIfInBounds_toArray, List.set_cons_zero, List.set_cons_succ, i64_w, i32_w]
      rfl
     refine take_ (i := 0) (N := some 40) (v := ?_) (a' := ?_) #[true, false, true, false, true, false, false, false, false, false, false, false, false, false, false, false, false] rfl rfl (take_ofW HT_.out HW_.out (by kernel_rfl)) (fun _ _ _ h => h) (Or.inl ⟨by rfl, ?_⟩) hHeld ?_ ?_
     rotate_left
     ·
      rintro w' ⟨s0, s1, s2, s3⟩
      go_simp; with_reducible rfl
     rotate_left
     ·
      simp only [Act.put, List.setIfInBounds_toArray, List.set_cons_zero, List.set_cons_succ, i64_w, i32_w]
      rfl
     refine take_ (i := 1) (N := some 41) (v := ?_) (a' := ?_) #[true, true, true, false, true, false, false, false, false, false, false, false, false, false, false, false, false] rfl rfl (take_ofW HT_.out HW_.out (by kernel_rfl)) (fun _ _ _ h => h) (Or.inl ⟨by rfl, ?_⟩) hHeld ?_ ?_
     rotate_left
     ·
      rintro w' ⟨s0, s1, s2, s3⟩
      go_simp; with_reducible rfl
     rotate_left
     ·
      simp only [Act.put, List.setIfInBounds_toArray, List.set_cons_zero, List.set_cons_succ, i64_w, i32_w]
      rfl
     refine take_ (i := 3) (N := some 43) (v := ?_) (a' := ?_) #[true, true, true, true, true, false, false, false, false, false, false, false, false, false, false, false, false] rfl rfl (take_ofW HT_.out HW_.out (by kernel_rfl)) (fun _ _ _ h => h) (Or.inl ⟨by rfl, ?_⟩) hHeld ?_ ?_
     rotate_left
     ·
      rintro w' ⟨s0, s1, s2, s3⟩
      go_simp; with_reducible rfl
     rotate_left
     ·
      simp only [Act.put, List.setIfInBounds_toArray, List.set_cons_zero, List.set_cons_succ, i64_w, i32_w]
      rfl
     refine take_ (i := 5) (N := some 45) (v := ?_) (a' := ?_) #[true, true, true, true, true, true, false, false, false, false, false, false, false, false, false, false, false] rfl rfl (take_ofW HT_.out HW_.out (by kernel_rfl)) (fun _ _ _ h => h) (Or.inl ⟨by rfl, ?_⟩) hHeld ?_ ?_
     rotate_left
     ·
      rintro w' ⟨s0, s1, s2, s3⟩
      go_simp; with_reducible rfl
     rotate_left
     ·
      simp only [Act.put, List.setIfInBounds_toArray, List.set_cons_zero, List.set_cons_succ, i64_w, i32_w]
      rfl
     refine pure_ (i := 6) (N := some 46) (v := ?_) (a' := ?_) #[true, true, true, true, true, true, true, false, false, false, false, false, false, false, false, false, false] rfl rfl (any_of HT_.out (by kernel_rfl)) (fun _ _ _ h => h) (Or.inl ⟨by rfl, ?_⟩) ?_ ?_
     rotate_left
     ·
      intro w'
      go_simp; with_reducible rfl
     rotate_left
     ·
      simp only [Act.put, List.setIfInBounds_toArray, List.set_cons_zero, List.set_cons_succ, i64_w, i32_w]
      rfl
     refine pure_ (i := 7) (N := some 47) (v := ?_) (a' := ?_) #[true, true, true, true, true, true, true, true, false, false, false, false, false, false, false, false, false] rfl rfl (any_of HT_.out (by kernel_rfl)) (fun _ _ _ h => h) (Or.inl ⟨by rfl, ?_⟩) ?_ ?_
     rotate_left
     ·
      intro w'
      go_simp; with_reducible rfl
     rotate_left
     ·
      simp only [Act.put, List.setIfInBounds_toArray, List.set_cons_zero, List.set_cons_succ, i64_w, i32_w]
      rfl
     refine pure_ (i := 8) (N := some 48) (v := undef) (a' := ?_) #[true, true, true, true, true, true, true, true, true, false, false, false, false, false, false, false, false] rfl rfl (any_of HT_.out (by kernel_rfl)) (fun _ _ _ h => h) (Or.inr ⟨by rfl, rfl⟩) ?_ ?_
     rotate_left
     ·
      simp only [Act.put, List.setIfInBounds_toArray, List.set_cons_zero, List.set_cons_succ, i64_w, i32_w]
      rfl
     refine pure_ (i := 9) (N := some 49) (v := undef) (a' := ?_) #[true, true, true, true, true, true, true, true, true, true, false, false, false, false, false, false, false] rfl rfl (any_of HT_.out (by kernel_rfl)) (fun _ _ _ h => h) (Or.inr ⟨by rfl, rfl⟩) ?_ ?_
     rotate_left
     ·
      simp only [Act.put, List.setIfInBounds_toArray, List.set_cons_zero, List.set_cons_succ, i64_w, i32_w]
      rfl
     refine pure_ (i := 10) (N := some 50) (v := undef) (a' := ?_) #[true, true, true, true, true, true, true, true, true, true, true, false, false, false, false, false, false] rfl rfl (any_of HT_.out (by kernel_rfl)) (fun _ _ _ h => h) (Or.inr ⟨by rfl, rfl⟩) ?_ ?_
     rotate_left
     ·
      simp only [Act.put, List.setIfInBounds_toArray, List.set_cons_zero, List.set_cons_succ, i64_w, i32_w]
      rfl
     refine pure_ (i := 11) (N := some 51) (v := undef) (a' := ?_) #[true, true, true, true, true, true, true, true, true, true, true, true, false, false, false, false, false] rfl rfl (any_of HT_.out (by kernel_rfl)) (fun _ _ _ h => h) (Or.inr ⟨by rfl, rfl⟩) ?_ ?_
     rotate_left
     ·
      simp only [Act.put, List.setIfInBounds_toArray, List.set_cons_zero, List.set_cons_succ, i64_w, i32_w]
      rfl
     refine pure_ (i := 12) (N := some 52) (v := undef) (a' := ?_) #[true, true, true, true, true, true, true, true, true, true, true, true, true, false, false, false, false] rfl rfl (any_of HT_.out (by kernel_rfl)) (fun _ _ _ h => h) (Or.inr ⟨by rfl, rfl⟩) ?_ ?_
     rotate_left
     ·
      simp only [Act.put, List.setIfInBounds_toArray, List.set_cons_zero, List.set_cons_succ, i64_w, i32_w]
      rfl
     refine pure_ (i := 13) (N := some 53) (v := ?_) (a' := ?_) #[true, true, true, true, true, true, true, true, true, true, true, true, true, true, false, false, false] rfl rfl (any_of HT_.out (by kernel_rfl)) (fun _ _ _ h => h) (Or.inl ⟨by rfl, ?_⟩) ?_ ?_
     rotate_left
     ·
      intro w'
      go_simp; with_reducible rfl
     rotate_left
     ·
      simp only [Act.put, List.setIfInBounds_toArray, List.set_cons_zero, List.set_cons_succ, i64_w, i32_w]
      rfl
     refine one_ (i := 14) (N := none) #[true, true, true, true, true, true, true, true, true, true, true, true, true, true, true, false, false] rfl rfl (one_of HT_.out (by kernel_rfl)) (by decide) (fun K hK => ?_)
     have hs137 : w136.cell? ⟨gb172, 0, none⟩ = some (.int .u64 0) := (blk_cell BK172.out 0).trans rfl
     have hfs137 := blk_frozen BK172.out 0
     have hns137_0 := NB170_172.out
     have hns137_1 := NB171_172.out
     have hns137_3 := NB173_172.out
     have hms137_0 := NB172_170.out
     have hms137_1 := NB172_171.out
     have hms137_3 := NB172_173.out
     have hs138 : w136.cell? ⟨gb172, 1, none⟩ = some (.int .u64 0) := (blk_cell BK172.out 1).trans rfl
     have hfs138 := blk_frozen BK172.out 1
     have hns138_0 := NB170_172.out
     have hns138_1 := NB171_172.out
     have hns138_3 := NB173_172.out
     have hms138_0 := NB172_170.out
     have hms138_1 := NB172_171.out
     have hms138_3 := NB172_173.out
     refine skip_ (w1 := ?_) (by rfl) rfl ?_ ?_
     rotate_left
     ·
      go_simp
      rfl
     refine hK.out _ _ ⟨((cell_far (p := ⟨gb172, _, none⟩) NB170_172.out _).trans (((cell_far (p := ⟨gb172, _, none⟩) NB170_172.out _).trans (hHeld.1)))), ((cell_far (p := ⟨gb172, _, none⟩) NB170_172.out _).trans (((cell_far (p := ⟨gb172, _, none⟩) NB170_172.out _).trans (hHeld.2.1)))), ((cell_far (p := ⟨gb172, _, none⟩) NB171_172.out _).trans (((cell_far (p := ⟨gb172, _, none⟩) NB171_172.out _).trans (hHeld.2.2.1)))), ((cell_far (p := ⟨gb172, _, none⟩) NB171_172.out _).trans (((cell_far (p := ⟨gb172, _, none⟩) NB171_172.out _).trans (hHeld.2.2.2))))⟩ (fun hHeld => ?_)
     clear hK K
     refine one_ (i := 15) (N := none) #[true, true, true, true, true, true, true, true, true, true, true, true, true, true, true, true, false] rfl rfl (one_of HT_.out (by kernel_rfl)) (by decide) (fun K hK => ?_)
     have hs139 : w136.cell? ⟨gb173, 0, none⟩ = some (.int .u64 0) := (blk_cell BK173.out 0).trans rfl
     have hfs139 := blk_frozen BK173.out 0
     have hns139_0 := NB170_173.out
     have hns139_1 := NB171_173.out
     have hns139_2 := NB172_173.out
     have hms139_0 := NB173_170.out
     have hms139_1 := NB173_171.out
     have hms139_2 := NB173_172.out
     have hs140 : w136.cell? ⟨gb173, 1, none⟩ = some (.int .u64 0) := (blk_cell BK173.out 1).trans rfl
     have hfs140 := blk_frozen BK173.out 1
     have hns140_0 := NB170_173.out
     have hns140_1 := NB171_173.out
     have hns140_2 := NB172_173.out
     have hms140_0 := NB173_170.out
     have hms140_1 := NB173_171.out
     have hms140_2 := NB173_172.out
     refine skip_ (w1 := ?_) (by rfl) rfl ?_ ?_
     rotate_left
     ·
      go_simp
      rfl
     refine hK.out _ _ ⟨((cell_far (p := ⟨gb173, _, none⟩) NB170_173.out _).trans (((cell_far (p := ⟨gb173, _, none⟩) NB170_173.out _).trans (hHeld.1)))), ((cell_far (p := ⟨gb173, _, none⟩) NB170_173.out _).trans (((cell_far (p := ⟨gb173, _, none⟩) NB170_173.out _).trans (hHeld.2.1)))), ((cell_far (p := ⟨gb173, _, none⟩) NB171_173.out _).trans (((cell_far (p := ⟨gb173, _, none⟩) NB171_173.out _).trans (hHeld.2.2.1)))), ((cell_far (p := ⟨gb173, _, none⟩) NB171_173.out _).trans (((cell_far (p := ⟨gb173, _, none⟩) NB171_173.out _).trans (hHeld.2.2.2))))⟩ (fun hHeld => ?_)
     clear hK K
     refine pure_ (i := 16) (N := some 8) (v := ?_) (a' := ?_) #[true, true, true, true, true, true, true, true, true, true, true, true, true, true, true, true, true] rfl rfl (any_of HT_.out (by kernel_rfl)) (fun _ _ _ h => h) (Or.inl ⟨by rfl, ?_⟩) ?_ ?_
     rotate_left
     ·
      intro w'
      go_simp; with_reducible rfl
     rotate_left
     ·
      simp only [Act.put, List.setIfInBounds_toArray, List.set_cons_zero, List.set_cons_succ, i64_w, i32_w]
      rfl
     refine done_ (done_of HT_.out (by kernel_rfl)) ?_
     try go_wp2
     refine bodyPost_ret (results_list (rs := [.cell 6 58, .cell 7 58, .tmp 8]) rfl (by simp) (.cell gb172 58 #[.int .u64 a0_0, .int .u64 ji104] (0, 0) _ rfl (by (with_reducible repeat (first | apply bN | apply bD | apply bA)); refine blk_far ?_ NB172_173.out _; (with_reducible repeat (first | apply bN | apply bD | apply bA)); refine blk_far ?_ NB172_173.out _; (with_reducible repeat (first | apply bN | apply bD | apply bA)); refine blk_put (cs := #[.int .u64 a0_0, .int .u64 0]) ?_ 1 _ rfl; (with_reducible repeat (first | apply bN | apply bD | apply bA)); refine blk_put (cs := #[.int .u64 0, .int .u64 0]) ?_ 0 _ rfl; (with_reducible repeat (first | apply bN | apply bD | apply bA)); exact BK172.out) Try.underlying58 rfl (by kernel_rfl) (.cell gb173 58 #[.int .u64 ji105, .int .u64 a1_1] (0, 0) _ rfl (by (with_reducible repeat (first | apply bN | apply bD | apply bA)); refine blk_put (cs := #[.int .u64 ji105, .int .u64 0]) ?_ 1 _ rfl; (with_reducible repeat (first | apply bN | apply bD | apply bA)); refine blk_put (cs := #[.int .u64 0, .int .u64 0]) ?_ 0 _ rfl; (with_reducible repeat (first | apply bN | apply bD | apply bA)); refine blk_far ?_ NB173_172.out _; (with_reducible repeat (first | apply bN | apply bD | apply bA)); refine blk_far ?_ NB173_172.out _; (with_reducible repeat (first | apply bN | apply bD | apply bA)); exact BK173.out) Try.underlying58 rfl (by kernel_rfl) (.tmp .nil)))) rfl ?_
     exact ⟨by first | rfl | (simp [errW_none, errW_some] <;> rfl) | (simp only [← hji104, ← hji105]; first | rfl | (simp [errW_none, errW_some] <;> rfl)) | (simp [*, errW_none, errW_some] <;> rfl), by repeat (first | (with_reducible first | exact HB.out | apply lA | apply lN | apply lD | refine lS ?_ ‹_›) | exact HB.out)⟩

end Go.Proofs.Ytladlljnpmpdpaa.PSpanNarrow
