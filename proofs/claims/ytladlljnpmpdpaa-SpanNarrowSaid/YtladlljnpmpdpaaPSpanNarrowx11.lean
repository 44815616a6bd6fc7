-- Written by a program of this session (a variant of the print), for this claim. Lean checks it.
import Derived.Test.YtladlljnpmpdpaaPSpanNarrowx0
import Derived.Test.YtladlljnpmpdpaaPSpanNarrowx10
namespace Go.Proofs.Ytladlljnpmpdpaa.PSpanNarrow
open Go.RowKit Go.Proofs.YtladlljnpmpdpaaW.PrintWords Go.Proofs.YtladlljnpmpdpaaW.PrintLast Go.Proofs.YtladlljnpmpdpaaW.PrintMore
attribute [local go_sem] max2_int min2_int max_two min_two max_three min_three max_four min_four   -- for this text's walks alone
attribute [local go_sem high] Go.Proofs.Ytladlljnpmpdpaa.NotLaw.not_u64 Go.Proofs.Ytladlljnpmpdpaa.NotLaw.not_u32 Go.Proofs.Ytladlljnpmpdpaa.NotLaw.not_u16 Go.Proofs.Ytladlljnpmpdpaa.NotLaw.not_u8
set_option linter.unusedVariables false
set_option linter.unusedSimpArgs false

/-! ### posternref15_Member: function 33 -/
def posternref15_Member.f (a0_0 : Int) (a0_1 : Int) (a1 : Int) : Option (Int) := (posternref15_Hi.f a0_0 a0_1).bind fun t260 => ((posternref15_Lo.f a0_0 a0_1).bind fun t261 => (if (IntKind.u64.wrap (t260 - t261)) = 18446744073709551615 then (some a1) else ((posternref15_Lo.f a0_0 a0_1).bind fun t262 => (if (IntKind.u64.wrap ((IntKind.u64.wrap (t260 - t261)) + 1)) = 0 then (none) else (some (IntKind.u64.wrap (t262 + (Int.tmod a1 (IntKind.u64.wrap ((IntKind.u64.wrap (t260 - t261)) + 1))))))))))
def posternref15_Member.T4 : Bool × List (List Nat × List Nat) := (true, [([], []), ([0], [0]), ([], []), ([], []), ([3], [3]), ([2, 4], [2, 4]), ([1, 5], [1, 5]), ([6, 1, 0, 1, 2, 3, 4, 5, 6], [6])])
def posternref15_Member.B4 : List Nat := [0, 1, 0, 0, 8, 28, 63, 127]
theorem posternref15_Member.tab4 : rtab .any (opsOf Try.f33 4) = posternref15_Member.T4 := by kernel_rfl
theorem posternref15_Member.bits4 : waitsOk posternref15_Member.T4.2 posternref15_Member.B4 = true := by kernel_rfl
set_option maxHeartbeats 8000000 in
set_option maxRecDepth 100000 in
theorem posternref15_Member.calls (a0_0 : Int) (a0_1 : Int) (a1 : Int) (r : Int) (w : World) (h : posternref15_Member.f a0_0 a0_1 a1 = some r) :
  Calls Try.prog 33 #[.agg #[.int .u64 a0_0, .int .u64 a0_1], .int .u64 a1] w fun e w' => e = .returned (.int .u64 r) ∧ Below w.heap.size w w' := by
 have hu58 := Try.underlying58
 have HB := Aside0.mk (Below.refl w.heap.size w)
 have H : ((posternref15_Hi.f a0_0 a0_1).bind fun t260 => ((posternref15_Lo.f a0_0 a0_1).bind fun t261 => (if (IntKind.u64.wrap (t260 - t261)) = 18446744073709551615 then (some a1) else ((posternref15_Lo.f a0_0 a0_1).bind fun t262 => (if (IntKind.u64.wrap ((IntKind.u64.wrap (t260 - t261)) + 1)) = 0 then (none) else (some (IntKind.u64.wrap (t262 + (Int.tmod a1 (IntKind.u64.wrap ((IntKind.u64.wrap (t260 - t261)) + 1))))))))))) = some r := h
 clear h; replace H := Option.bind_eq_some_iff.mp H; obtain ⟨t260, A30, H⟩ := H
 replace H : ((posternref15_Lo.f a0_0 a0_1).bind fun t261 => (if (IntKind.u64.wrap (t260 - t261)) = 18446744073709551615 then (some a1) else ((posternref15_Lo.f a0_0 a0_1).bind fun t262 => (if (IntKind.u64.wrap ((IntKind.u64.wrap (t260 - t261)) + 1)) = 0 then (none) else (some (IntKind.u64.wrap (t262 + (Int.tmod a1 (IntKind.u64.wrap ((IntKind.u64.wrap (t260 - t261)) + 1)))))))))) = some r := H
 have A3 := Aside0.mk A30; clear A30; replace H := Option.bind_eq_some_iff.mp H; obtain ⟨t261, A40, H⟩ := H
 replace H : (if (IntKind.u64.wrap (t260 - t261)) = 18446744073709551615 then (some a1) else ((posternref15_Lo.f a0_0 a0_1).bind fun t262 => (if (IntKind.u64.wrap ((IntKind.u64.wrap (t260 - t261)) + 1)) = 0 then (none) else (some (IntKind.u64.wrap (t262 + (Int.tmod a1 (IntKind.u64.wrap ((IntKind.u64.wrap (t260 - t261)) + 1))))))))) = some r := H
 have A4 := Aside0.mk A40; clear A40
 by_cases c5 : (IntKind.u64.wrap (t260 - t261)) = 18446744073709551615
 ·
  rw [if_pos c5] at H
  have c5b0 : ((IntKind.u64.wrap (t260 - t261)) == 18446744073709551615) = true := beq_iff_eq.mpr c5; have c5b1 : ((IntKind.u64.wrap (t260 - t261)) != 18446744073709551615) = false := bne_eq_false_iff_eq.mpr c5; clear c5
  obtain rfl := Option.some.inj H
  go_enter Try.func33, Try.ntmps33
  try go_wp2_with (first | ((with_reducible refine gate_dst (N := 2) rfl ?_); refine box_event ?hg (N := 2) ?hd (cs := #[.int .u64 a0_0, .int .u64 a0_1]) (t := 58) ?hr ?_; (case hd => rfl); (case hg => rfl); (case hr => first | (go_simp; done) | (go_simp; rfl)); intro gb259 hg w6 hbox hb; have n0_ := Aside0.mk (below_step (by repeat (first | (with_reducible first | exact HB.out | apply lA | apply lN | apply lD) | exact HB.out)) hb); have n1_ := Aside0.mk (hbox); have n2_ := Aside0.mk ((by rw [hg]; exact (below_size (by repeat (first | (with_reducible first | exact HB.out | apply lA | apply lN | apply lD) | exact HB.out))) : w.heap.size ≤ gb259)); have n3_ := n2_; clear HB; have HB := n0_; have BK259 := n1_; have GW259 := n2_; have GE259 := n3_; clear n0_ n1_ n2_ n3_; clear hb hbox hg))
  have n0_ := Aside0.mk (blk_drew BK259.out)
  have n1_ := Aside0.mk (below_drew1 HB.out)
  clear BK259; clear HB; have BK259 := n0_; have HB := n1_; clear n0_ n1_
  refine start_ (n := 6) (S := fun w' => w'.cell? ⟨gb259, 0, none⟩ = some (.int .u64 a0_0) ∧ w'.cell? ⟨gb259, 1, none⟩ = some (.int .u64 a0_1)) (ds := []) #[false, false, false, false, false, false] (by kernel_rfl) rfl rfl ⟨(blk_cell BK259.out 0).trans rfl, (blk_cell BK259.out 1).trans rfl⟩ (fun hHeld => ?_)
  generalize w6.drew = w7 at BK259 HB hHeld ⊢
  refine take_ (i := 0) (N := some 6) (v := ?_) (a' := ?_) #[true, false, false, false, false, false] rfl rfl (by kernel_rfl) (fun _ _ _ h => h) (Or.inl ⟨by rfl, ?_⟩) hHeld ?_ ?_
  rotate_left
  ·
   rintro w' ⟨s0, s1⟩
   go_simp; with_reducible rfl
  rotate_left
  ·
   simp only [Act.put, List.setIfInBounds_toArray, List.set_cons_zero, List.set_cons_succ, i64_w, i32_w]
   rfl
  refine take_ (i := 2) (N := some 8) (v := ?_) (a' := ?_) #[true, false, true, false, false, false] rfl rfl (by kernel_rfl) (fun _ _ _ h => h) (Or.inl ⟨by rfl, ?_⟩) hHeld ?_ ?_
  rotate_left
  ·
   rintro w' ⟨s0, s1⟩
   go_simp; with_reducible rfl
  rotate_left
  ·
   simp only [Act.put, List.setIfInBounds_toArray, List.set_cons_zero, List.set_cons_succ, i64_w, i32_w]
   rfl
  refine one_ (i := 1) (N := some 7) #[true, true, true, false, false, false] rfl rfl (by kernel_rfl) (by decide) (fun K hK => ?_)
  refine goes_ Try.func31 (by kernel_rfl) rfl #[.agg #[.int .u64 a0_0, .int .u64 a0_1]] (by rfl) rfl rfl (by (try simp only [List.map_toArray, List.map_cons, List.map_nil]); first | done | rfl | (simp only [List.length_drop, List.length_take]; rfl)) ?_
  with_reducible refine (posternref15_Hi.calls a0_0 a0_1 t260 _ A3.out).mono ?_
  rintro e w8 ⟨rfl, hb⟩
  refine ⟨_, rfl, ?_⟩
  have n0_ := Aside0.mk (blk_below (g := gb259) (o := .cells #[.int .u64 a0_0, .int .u64 a0_1] 58 (0, 0)) (by (with_reducible repeat (first | apply bN | apply bD | apply bA)); exact BK259.out) hb)
  have n1_ := Aside0.mk (below_step (by repeat (first | (with_reducible first | exact HB.out | apply lA | apply lN | apply lD | refine lS ?_ ‹_›) | exact HB.out)) hb)
  clear BK259; clear HB; have BK259 := n0_; have HB := n1_; clear n0_ n1_
  (try clear hb)
  (try clear hb2)
  (try clear hk)
  (try clear hi)
  refine hK.out _ _ ⟨(blk_cell BK259.out 0).trans rfl, (blk_cell BK259.out 1).trans rfl⟩ (fun hHeld => ?_)
  clear hK K
  refine norm_ (a' := ?_) ?_ ?_
  rotate_left
  ·
   show Act.put _ (some 7) _ = _
   simp only [Act.put, List.setIfInBounds_toArray, List.set_cons_zero, List.set_cons_succ, i64_w, i32_w]
   rfl
  refine one_ (i := 3) (N := some 9) #[true, true, true, true, false, false] rfl rfl (by kernel_rfl) (by decide) (fun K hK => ?_)
  refine goes_ Try.func30 (by kernel_rfl) rfl #[.agg #[.int .u64 a0_0, .int .u64 a0_1]] (by rfl) rfl rfl (by (try simp only [List.map_toArray, List.map_cons, List.map_nil]); first | done | rfl | (simp only [List.length_drop, List.length_take]; rfl)) ?_
  with_reducible refine (posternref15_Lo.calls a0_0 a0_1 t261 _ A4.out).mono ?_
  rintro e w9 ⟨rfl, hb⟩
  refine ⟨_, rfl, ?_⟩
  have n0_ := Aside0.mk (blk_below (g := gb259) (o := .cells #[.int .u64 a0_0, .int .u64 a0_1] 58 (0, 0)) (by (with_reducible repeat (first | apply bN | apply bD | apply bA)); exact BK259.out) hb)
  have n1_ := Aside0.mk (below_step (by repeat (first | (with_reducible first | exact HB.out | apply lA | apply lN | apply lD | refine lS ?_ ‹_›) | exact HB.out)) hb)
  clear BK259; clear HB; have BK259 := n0_; have HB := n1_; clear n0_ n1_
  (try clear hb)
  (try clear hb2)
  (try clear hk)
  (try clear hi)
  refine hK.out _ _ ⟨(blk_cell BK259.out 0).trans rfl, (blk_cell BK259.out 1).trans rfl⟩ (fun hHeld => ?_)
  clear hK K
  refine norm_ (a' := ?_) ?_ ?_
  rotate_left
  ·
   show Act.put _ (some 9) _ = _
   simp only [Act.put, List.setIfInBounds_toArray, List.set_cons_zero, List.set_cons_succ, i64_w, i32_w]
   rfl
  refine pure_ (i := 4) (N := some 10) (v := ?_) (a' := ?_) #[true, true, true, true, true, false] rfl rfl (by kernel_rfl) (fun _ _ _ h => h) (Or.inl ⟨by rfl, ?_⟩) ?_ ?_
  rotate_left
  ·
   intro w'
   go_simp; with_reducible rfl
  rotate_left
  ·
   simp only [Act.put, List.setIfInBounds_toArray, List.set_cons_zero, List.set_cons_succ, i64_w, i32_w]
   rfl
  refine pure_ (i := 5) (N := some 5) (v := ?_) (a' := ?_) #[true, true, true, true, true, true] rfl rfl (by kernel_rfl) (fun _ _ _ h => h) (Or.inl ⟨by rfl, ?_⟩) ?_ ?_
  rotate_left
  ·
   intro w'
   go_simp; with_reducible rfl
  rotate_left
  ·
   simp only [Act.put, List.setIfInBounds_toArray, List.set_cons_zero, List.set_cons_succ, i64_w, i32_w]
   rfl
  refine done_ (by kernel_rfl) ?_
  try go_wp2
  go_ret
  exact ⟨by first | rfl | (simp [errW_none, errW_some] <;> rfl) | (simp [*, errW_none, errW_some] <;> rfl), by repeat (first | (with_reducible first | exact HB.out | apply lA | apply lN | apply lD | refine lS ?_ ‹_›) | exact HB.out)⟩
 ·
  rw [if_neg c5] at H
  have c5b0 : ((IntKind.u64.wrap (t260 - t261)) == 18446744073709551615) = false := beq_eq_false_iff_ne.mpr c5; have c5b1 : ((IntKind.u64.wrap (t260 - t261)) != 18446744073709551615) = true := bne_iff_ne.mpr c5; replace H := Option.bind_eq_some_iff.mp H; obtain ⟨t262, A100, H⟩ := H
  replace H : (if (IntKind.u64.wrap ((IntKind.u64.wrap (t260 - t261)) + 1)) = 0 then (none) else (some (IntKind.u64.wrap (t262 + (Int.tmod a1 (IntKind.u64.wrap ((IntKind.u64.wrap (t260 - t261)) + 1))))))) = some r := H
  have A10 := Aside0.mk A100; clear A100
  by_cases c11 : (IntKind.u64.wrap ((IntKind.u64.wrap (t260 - t261)) + 1)) = 0
  ·
   rw [if_pos c11] at H
   exact absurd H (by simp)
  ·
   rw [if_neg c11] at H
   have c11b0 : ((IntKind.u64.wrap ((IntKind.u64.wrap (t260 - t261)) + 1)) == 0) = false := beq_eq_false_iff_ne.mpr c11; have c11b1 : ((IntKind.u64.wrap ((IntKind.u64.wrap (t260 - t261)) + 1)) != 0) = true := bne_iff_ne.mpr c11
   obtain rfl := Option.some.inj H
   go_enter Try.func33, Try.ntmps33
   try go_wp2_with (first | ((with_reducible refine gate_dst (N := 2) rfl ?_); refine box_event ?hg (N := 2) ?hd (cs := #[.int .u64 a0_0, .int .u64 a0_1]) (t := 58) ?hr ?_; (case hd => rfl); (case hg => rfl); (case hr => first | (go_simp; done) | (go_simp; rfl)); intro gb259 hg w12 hbox hb; have n0_ := Aside0.mk (below_step (by repeat (first | (with_reducible first | exact HB.out | apply lA | apply lN | apply lD) | exact HB.out)) hb); have n1_ := Aside0.mk (hbox); have n2_ := Aside0.mk ((by rw [hg]; exact (below_size (by repeat (first | (with_reducible first | exact HB.out | apply lA | apply lN | apply lD) | exact HB.out))) : w.heap.size ≤ gb259)); have n3_ := n2_; clear HB; have HB := n0_; have BK259 := n1_; have GW259 := n2_; have GE259 := n3_; clear n0_ n1_ n2_ n3_; clear hb hbox hg))
   have n0_ := Aside0.mk (blk_drew BK259.out)
   have n1_ := Aside0.mk (below_drew1 HB.out)
   clear BK259; clear HB; have BK259 := n0_; have HB := n1_; clear n0_ n1_
   refine start_ (n := 6) (S := fun w' => w'.cell? ⟨gb259, 0, none⟩ = some (.int .u64 a0_0) ∧ w'.cell? ⟨gb259, 1, none⟩ = some (.int .u64 a0_1)) (ds := []) #[false, false, false, false, false, false] (by kernel_rfl) rfl rfl ⟨(blk_cell BK259.out 0).trans rfl, (blk_cell BK259.out 1).trans rfl⟩ (fun hHeld => ?_)
   generalize w12.drew = w13 at BK259 HB hHeld ⊢
   refine take_ (i := 0) (N := some 6) (v := ?_) (a' := ?_) #[true, false, false, false, false, false] rfl rfl (by kernel_rfl) (fun _ _ _ h => h) (Or.inl ⟨by rfl, ?_⟩) hHeld ?_ ?_
   rotate_left
   ·
    rintro w' ⟨s0, s1⟩
    go_simp; with_reducible rfl
   rotate_left
   ·
    simp only [Act.put, List.setIfInBounds_toArray, List.set_cons_zero, List.set_cons_succ, i64_w, i32_w]
    rfl
   refine take_ (i := 2) (N := some 8) (v := ?_) (a' := ?_) #[true, false, true, false, false, false] rfl rfl (by kernel_rfl) (fun _ _ _ h => h) (Or.inl ⟨by rfl, ?_⟩) hHeld ?_ ?_
   rotate_left
   ·
    rintro w' ⟨s0, s1⟩
    go_simp; with_reducible rfl
   rotate_left
   ·
    simp only [Act.put, List.setIfInBounds_toArray, List.set_cons_zero, List.set_cons_succ, i64_w, i32_w]
    rfl
   refine one_ (i := 1) (N := some 7) #[true, true, true, false, false, false] rfl rfl (by kernel_rfl) (by decide) (fun K hK => ?_)
   refine goes_ Try.func31 (by kernel_rfl) rfl #[.agg #[.int .u64 a0_0, .int .u64 a0_1]] (by rfl) rfl rfl (by (try simp only [List.map_toArray, List.map_cons, List.map_nil]); first | done | rfl | (simp only [List.length_drop, List.length_take]; rfl)) ?_
   with_reducible refine (posternref15_Hi.calls a0_0 a0_1 t260 _ A3.out).mono ?_
   rintro e w14 ⟨rfl, hb⟩
   refine ⟨_, rfl, ?_⟩
   have n0_ := Aside0.mk (blk_below (g := gb259) (o := .cells #[.int .u64 a0_0, .int .u64 a0_1] 58 (0, 0)) (by (with_reducible repeat (first | apply bN | apply bD | apply bA)); exact BK259.out) hb)
   have n1_ := Aside0.mk (below_step (by repeat (first | (with_reducible first | exact HB.out | apply lA | apply lN | apply lD | refine lS ?_ ‹_›) | exact HB.out)) hb)
   clear BK259; clear HB; have BK259 := n0_; have HB := n1_; clear n0_ n1_
   (try clear hb)
   (try clear hb2)
   (try clear hk)
   (try clear hi)
   refine hK.out _ _ ⟨(blk_cell BK259.out 0).trans rfl, (blk_cell BK259.out 1).trans rfl⟩ (fun hHeld => ?_)
   clear hK K
   refine norm_ (a' := ?_) ?_ ?_
   rotate_left
   ·
    show Act.put _ (some 7) _ = _
    simp only [Act.put, List.setIfInBounds_toArray, List.set_cons_zero, List.set_cons_succ, i64_w, i32_w]
    rfl
   refine one_ (i := 3) (N := some 9) #[true, true, true, true, false, false] rfl rfl (by kernel_rfl) (by decide) (fun K hK => ?_)
   refine goes_ Try.func30 (by kernel_rfl) rfl #[.agg #[.int .u64 a0_0, .int .u64 a0_1]] (by rfl) rfl rfl (by (try simp only [List.map_toArray, List.map_cons, List.map_nil]); first | done | rfl | (simp only [List.length_drop, List.length_take]; rfl)) ?_
   with_reducible refine (posternref15_Lo.calls a0_0 a0_1 t261 _ A4.out).mono ?_
   rintro e w15 ⟨rfl, hb⟩
   refine ⟨_, rfl, ?_⟩
   have n0_ := Aside0.mk (blk_below (g := gb259) (o := .cells #[.int .u64 a0_0, .int .u64 a0_1] 58 (0, 0)) (by (with_reducible repeat (first | apply bN | apply bD | apply bA)); exact BK259.out) hb)
   have n1_ := Aside0.mk (below_step (by repeat (first | (with_reducible first | exact HB.out | apply lA | apply lN | apply lD | refine lS ?_ ‹_›) | exact HB.out)) hb)
   clear BK259; clear HB; have BK259 := n0_; have HB := n1_; clear n0_ n1_
   (try clear hb)
   (try clear hb2)
   (try clear hk)
   (try clear hi)
   refine hK.out _ _ ⟨(blk_cell BK259.out 0).trans rfl, (blk_cell BK259.out 1).trans rfl⟩ (fun hHeld => ?_)
   clear hK K
   refine norm_ (a' := ?_) ?_ ?_
   rotate_left
   ·
    show Act.put _ (some 9) _ = _
    simp only [Act.put, List.setIfInBounds_toArray, List.set_cons_zero, List.set_cons_succ, i64_w, i32_w]
    rfl
   refine pure_ (i := 4) (N := some 10) (v := ?_) (a' := ?_) #[true, true, true, true, true, false] rfl rfl (by kernel_rfl) (fun _ _ _ h => h) (Or.inl ⟨by rfl, ?_⟩) ?_ ?_
   rotate_left
   ·
    intro w'
    go_simp; with_reducible rfl
   rotate_left
   ·
    simp only [Act.put, List.setIfInBounds_toArray, List.set_cons_zero, List.set_cons_succ, i64_w, i32_w]
    rfl
   refine pure_ (i := 5) (N := some 5) (v := ?_) (a' := ?_) #[true, true, true, true, true, true] rfl rfl (by kernel_rfl) (fun _ _ _ h => h) (Or.inl ⟨by rfl, ?_⟩) ?_ ?_
   rotate_left
   ·
    intro w'
    go_simp; with_reducible rfl
   rotate_left
   ·
    simp only [Act.put, List.setIfInBounds_toArray, List.set_cons_zero, List.set_cons_succ, i64_w, i32_w]
    rfl
   refine done_ (by kernel_rfl) ?_
   try go_wp2
   have n0_ := Aside0.mk (blk_drew BK259.out)
   have n1_ := Aside0.mk (below_drew1 HB.out)
   clear BK259; clear HB; have BK259 := n0_; have HB := n1_; clear n0_ n1_
   refine start_ (n := 8) (S := fun w' => w'.cell? ⟨gb259, 0, none⟩ = some (.int .u64 a0_0) ∧ w'.cell? ⟨gb259, 1, none⟩ = some (.int .u64 a0_1)) (ds := []) #[false, false, false, false, false, false, false, false] (by kernel_rfl) rfl rfl ⟨(blk_cell BK259.out 0).trans rfl, (blk_cell BK259.out 1).trans rfl⟩ (fun hHeld => ?_); refine with_tabW posternref15_Member.tab4 posternref15_Member.bits4 (fun HT_ HW_ => ?_)
   generalize w15.drew = w16 at BK259 HB hHeld ⊢
   refine pure_ (i := 2) (N := some 16) (v := ?_) (a' := ?_) #[false, false, true, false, false, false, false, false] rfl rfl (any_of HT_.out (by kernel_rfl)) (fun _ _ _ h => h) (Or.inl ⟨by rfl, ?_⟩) ?_ ?_
   rotate_left
   ·
    intro w'
    go_simp; with_reducible rfl
   rotate_left
   ·
    simp only [Act.put, List.setIfInBounds_toArray, List.set_cons_zero, List.set_cons_succ, i64_w, i32_w]
    rfl
   refine pure_ (i := 3) (N := some 17) (v := ?_) (a' := ?_) #[false, false, true, true, false, false, false, false] rfl rfl (any_of HT_.out (by kernel_rfl)) (fun _ _ _ h => h) (Or.inl ⟨by rfl, ?_⟩) ?_ ?_
   rotate_left
   ·
    intro w'
    go_simp; with_reducible rfl
   rotate_left
   ·
    simp only [Act.put, List.setIfInBounds_toArray, List.set_cons_zero, List.set_cons_succ, i64_w, i32_w]
    rfl
   refine pure_ (i := 4) (N := some 18) (v := ?_) (a' := ?_) #[false, false, true, true, true, false, false, false] rfl rfl (any_of HT_.out (by kernel_rfl)) (fun _ _ _ h => h) (Or.inl ⟨by rfl, ?_⟩) ?_ ?_
   rotate_left
   ·
    intro w'
    go_simp; with_reducible rfl
   rotate_left
   ·
    simp only [Act.put, List.setIfInBounds_toArray, List.set_cons_zero, List.set_cons_succ, i64_w, i32_w]
    rfl
   refine pure_ (i := 5) (N := some 19) (v := ?_) (a' := ?_) #[false, false, true, true, true, true, false, false] rfl rfl (any_of HT_.out (by kernel_rfl)) (fun _ _ _ h => h) (Or.inl ⟨by rfl, ?_⟩) ?_ ?_
   rotate_left
   ·
    intro w'
    go_simp; with_reducible rfl
   rotate_left
   ·
    simp only [Act.put, List.setIfInBounds_toArray, List.set_cons_zero, List.set_cons_succ, i64_w, i32_w]
    rfl
   refine take_ (i := 0) (N := some 14) (v := ?_) (a' := ?_) #[true, false, true, true, true, true, false, false] rfl rfl (take_ofW HT_.out HW_.out (by kernel_rfl)) (fun _ _ _ h => h) (Or.inl ⟨by rfl, ?_⟩) hHeld ?_ ?_
   rotate_left
   ·
    rintro w' ⟨s0, s1⟩
    go_simp; with_reducible rfl
   rotate_left
   ·
    simp only [Act.put, List.setIfInBounds_toArray, List.set_cons_zero, List.set_cons_succ, i64_w, i32_w]
    rfl
   refine one_ (i := 1) (N := some 15) #[true, true, true, true, true, true, false, false] rfl rfl (one_of HT_.out (by kernel_rfl)) (by decide) (fun K hK => ?_)
   refine goes_ Try.func30 (by kernel_rfl) rfl #[.agg #[.int .u64 a0_0, .int .u64 a0_1]] (by rfl) rfl rfl (by (try simp only [List.map_toArray, List.map_cons, List.map_nil]); first | done | rfl | (simp only [List.length_drop, List.length_take]; rfl)) ?_
   with_reducible refine (posternref15_Lo.calls a0_0 a0_1 t262 _ A10.out).mono ?_
   rintro e w17 ⟨rfl, hb⟩
   refine ⟨_, rfl, ?_⟩
   have n0_ := Aside0.mk (blk_below (g := gb259) (o := .cells #[.int .u64 a0_0, .int .u64 a0_1] 58 (0, 0)) (by (with_reducible repeat (first | apply bN | apply bD | apply bA)); exact BK259.out) hb)
   have n1_ := Aside0.mk (below_step (by repeat (first | (with_reducible first | exact HB.out | apply lA | apply lN | apply lD | refine lS ?_ ‹_›) | exact HB.out)) hb)
   clear BK259; clear HB; have BK259 := n0_; have HB := n1_; clear n0_ n1_
   (try clear hb)
   (try clear hb2)
   (try clear hk)
   (try clear hi)
   refine hK.out _ _ ⟨(blk_cell BK259.out 0).trans rfl, (blk_cell BK259.out 1).trans rfl⟩ (fun hHeld => ?_)
   clear hK K
   refine norm_ (a' := ?_) ?_ ?_
   rotate_left
   ·
    show Act.put _ (some 15) _ = _
    simp only [Act.put, List.setIfInBounds_toArray, List.set_cons_zero, List.set_cons_succ, i64_w, i32_w]
    rfl
   refine pure_ (i := 6) (N := some 20) (v := ?_) (a' := ?_) #[true, true, true, true, true, true, true, false] rfl rfl (any_of HT_.out (by kernel_rfl)) (fun _ _ _ h => h) (Or.inl ⟨by rfl, ?_⟩) ?_ ?_
   rotate_left
   ·
    intro w'
    go_simp; with_reducible rfl
   rotate_left
   ·
    simp only [Act.put, List.setIfInBounds_toArray, List.set_cons_zero, List.set_cons_succ, i64_w, i32_w]
    rfl
   refine pure_ (i := 7) (N := some 4) (v := ?_) (a' := ?_) #[true, true, true, true, true, true, true, true] rfl rfl (any_of HT_.out (by kernel_rfl)) (fun _ _ _ h => h) (Or.inl ⟨by rfl, ?_⟩) ?_ ?_
   rotate_left
   ·
    intro w'
    go_simp; with_reducible rfl
   rotate_left
   ·
    simp only [Act.put, List.setIfInBounds_toArray, List.set_cons_zero, List.set_cons_succ, i64_w, i32_w]
    rfl
   refine done_ (done_of HT_.out (by kernel_rfl)) ?_
   try go_wp2
   go_ret
   exact ⟨by first | rfl | (simp [errW_none, errW_some] <;> rfl) | (simp [*, errW_none, errW_some] <;> rfl), by repeat (first | (with_reducible first | exact HB.out | apply lA | apply lN | apply lD | refine lS ?_ ‹_›) | exact HB.out)⟩

/-! ### posternref05_pow: function 46 -/
def posternref05_pow.l0 : Nat → Int → Int → Option (Int)
 | 0, _, _ => none
 | k + 1, x0, x3 => if x0 > 0 then (posternref05_pow.l0 k (IntKind.u64.wrap (x0 - 1)) (IntKind.u64.wrap (x3 * 2))) else (some x3)
def posternref05_pow.f (k : Nat) (a0 : Int) : Option (Int) := posternref05_pow.l0 k a0 1
theorem posternref05_pow.mono_l : ∀ k, (∀ y0 y1, LeO (posternref05_pow.l0 k y0 y1) (posternref05_pow.l0 (k + 1) y0 y1))
 | 0 => fun _ _ r h => by simp [posternref05_pow.l0] at h
 | k + 1 => by
  have ih0 := posternref05_pow.mono_l k
  ·
   intro y0 y1
   unfold posternref05_pow.l0
   repeat' first
   | (with_reducible exact ih0 _ _)
   | (with_reducible exact LeO.refl _)
   | (with_reducible exact LeO.none _)
   | (with_reducible refine LeO.ite ?_ ?_)
   | (with_reducible refine LeO.bind ?_ (fun _ => ?_))
   | exact ih0 _ _
   | exact LeO.none _
   | refine LeO.ite ?_ ?_
   | refine LeO.bind ?_ (fun _ => ?_)
theorem posternref05_pow.mono : ∀ a0 k, LeO (posternref05_pow.f k a0) (posternref05_pow.f (k + 1) a0) := by
 intro a0 k
 have ih0 := posternref05_pow.mono_l k
 unfold posternref05_pow.f
 repeat' first
   | (with_reducible exact ih0 _ _)
   | (with_reducible exact LeO.refl _)
   | (with_reducible exact LeO.none _)
   | (with_reducible refine LeO.ite ?_ ?_)
   | (with_reducible refine LeO.bind ?_ (fun _ => ?_))
   | exact ih0 _ _
   | exact LeO.none _
   | refine LeO.ite ?_ ?_
   | refine LeO.bind ?_ (fun _ => ?_)
set_option maxHeartbeats 8000000 in
set_option maxRecDepth 100000 in
theorem posternref05_pow.calls (k : Nat) (a0 : Int) (r : Int) (w : World) (h : posternref05_pow.f k a0 = some r) :
  Calls Try.prog 46 #[.int .u64 a0] w fun e w' => e = .returned (.int .u64 r) ∧ Drawn0 w w' := by
 have H : (posternref05_pow.l0 k a0 1) = some r := h
 clear h
 have H' := Aside0.mk H
 clear H
 go_enter Try.func46, Try.ntmps46
 go_wp2
 go_loopg [0, 3] k (fun kq v0 v3 w' => ∃ (x0_1 : Int) (x3_1 : Int), v0 = .int .u64 x0_1 ∧ v3 = .int .u64 x3_1 ∧ Aside0 (posternref05_pow.l0 kq x0_1 x3_1 = some r) ∧ Aside0 (kq ≤ k) ∧ Drawn0 w w')
 case atStart => exact ⟨(a0), (1), (by first | rfl | (simp; done) | (simp [*]; done)), (by first | rfl | (simp; done) | (simp [*]; done)), H', ⟨Nat.le_refl _⟩, by repeat (first | exact Drawn0.refl _ | apply Drawn0.step)⟩
 case round =>
  clear H'
  obtain ⟨x0_1, x3_1, rfl, rfl, HA, HK1, ⟨m1, rfl⟩⟩ := hrel
  cases gk with
  | zero => exact absurd HA.out (by simp [posternref05_pow.l0])
  | succ k1 =>
   have H := HA.out
   clear HA
   simp only [posternref05_pow.l0] at H
   by_cases c2 : x0_1 > 0
   ·
    rw [if_pos c2] at H
    have c2b0 : decide (0 < x0_1) = true := decide_eq_true c2; clear c2
    have H' := Aside0.mk H
    clear H
    go_wp2
    go_roundg k1
    case measure => have := HK1.out; omega
    case rel => exact ⟨(IntKind.u64.wrap (x0_1 - 1)), (IntKind.u64.wrap (x3_1 * 2)), (by first | rfl | (simp; done) | (simp [*]; done)), (by first | rfl | (simp; done) | (simp [*]; done)), H', ⟨by have := HK1.out; omega⟩, by repeat (first | exact Drawn0.refl _ | apply Drawn0.step)⟩
   ·
    rw [if_neg c2] at H
    have c2b0 : decide (0 < x0_1) = false := decide_eq_false c2; clear c2
    obtain rfl := Option.some.inj H
    go_wp2
    go_ret
    exact ⟨by first | rfl | (simp; done) | (simp [*]; done), by repeat (first | exact Drawn0.refl _ | apply Drawn0.step)⟩

/-! ### posternref05_Holds: function 34 -/
mutual
def posternref05_Holds.j0 : Nat → Int → Int → Int → Int → Option (Bool × Bool)
 | 0, _, _, _, _ => none
 | k + 1, x0, x1, x2, x3 => (posternref05_pow.f k (IntKind.u64.wrap (wrap64 (x1 - 1)))).bind fun t263 => (if x1 = 32 then (posternref05_Holds.j1 k x0 x2 x3 (Int.tmod (IntKind.u64.wrap (x2 + t263)) 4294967296) (Int.tmod (IntKind.u64.wrap (x3 + t263)) 4294967296)) else (posternref05_Holds.j1 k x0 x2 x3 (IntKind.u64.wrap (x2 + t263)) (IntKind.u64.wrap (x3 + t263))))
def posternref05_Holds.j1 : Nat → Int → Int → Int → Int → Int → Option (Bool × Bool)
 | 0, _, _, _, _, _ => none
 | k + 1, x0, x2, x3, x11, x12 => if x0 = 16 then (some ((x2 == x3), true)) else (if x0 = 80 then (some ((x2 != x3), true)) else (if x0 = 32 then (some (decide (x2 > x3), true)) else (if x0 = 48 then (some (decide (x2 ≥ x3), true)) else (if x0 = 160 then (some (decide (x2 < x3), true)) else (if x0 = 176 then (some (decide (x2 ≤ x3), true)) else (if x0 = 96 then (some (decide (x11 > x12), true)) else (if x0 = 112 then (some (decide (x11 ≥ x12), true)) else (if x0 = 192 then (some (decide (x11 < x12), true)) else (if x0 = 208 then (some (decide (x11 ≤ x12), true)) else (if x0 = 64 then (some (decide ((Go.bits .and .u64 x2 x3) > 0), true)) else (some (false, false))))))))))))
end
def posternref05_Holds.f (k : Nat) (a0 : Int) (a1 : Int) (a2 : Int) (a3 : Int) : Option (Bool × Bool) := if a1 = 32 then (posternref05_Holds.j0 k a0 a1 (Int.tmod a2 4294967296) (Int.tmod a3 4294967296)) else (posternref05_Holds.j0 k a0 a1 a2 a3)
theorem posternref05_Holds.mono_l : ∀ k, (∀ y0 y1 y2 y3, LeO (posternref05_Holds.j0 k y0 y1 y2 y3) (posternref05_Holds.j0 (k + 1) y0 y1 y2 y3)) ∧ (∀ y0 y1 y2 y3 y4, LeO (posternref05_Holds.j1 k y0 y1 y2 y3 y4) (posternref05_Holds.j1 (k + 1) y0 y1 y2 y3 y4))
 | 0 => ⟨fun _ _ _ _ r h => by simp [posternref05_Holds.j0] at h, fun _ _ _ _ _ r h => by simp [posternref05_Holds.j1] at h⟩
 | k + 1 => by
  obtain ⟨ih0, ih1⟩ := posternref05_Holds.mono_l k
  refine ⟨?_, ?_⟩
  ·
   intro y0 y1 y2 y3
   unfold posternref05_Holds.j0
   repeat' first
   | (with_reducible exact ih0 _ _ _ _)
   | (with_reducible exact ih1 _ _ _ _ _)
   | (with_reducible exact posternref05_pow.mono _ _)
   | (with_reducible exact LeO.refl _)
   | (with_reducible exact LeO.none _)
   | (with_reducible refine LeO.ite ?_ ?_)
   | (with_reducible refine LeO.bind ?_ (fun _ => ?_))
   | exact ih0 _ _ _ _
   | exact ih1 _ _ _ _ _
   | exact posternref05_pow.mono _ _
   | exact LeO.none _
   | refine LeO.ite ?_ ?_
   | refine LeO.bind ?_ (fun _ => ?_)
  ·
   intro y0 y1 y2 y3 y4
   unfold posternref05_Holds.j1
   repeat' first
   | (with_reducible exact ih0 _ _ _ _)
   | (with_reducible exact ih1 _ _ _ _ _)
   | (with_reducible exact posternref05_pow.mono _ _)
   | (with_reducible exact LeO.refl _)
   | (with_reducible exact LeO.none _)
   | (with_reducible refine LeO.ite ?_ ?_)
   | (with_reducible refine LeO.bind ?_ (fun _ => ?_))
   | exact ih0 _ _ _ _
   | exact ih1 _ _ _ _ _
   | exact posternref05_pow.mono _ _
   | exact LeO.none _
   | refine LeO.ite ?_ ?_
   | refine LeO.bind ?_ (fun _ => ?_)
theorem posternref05_Holds.mono : ∀ a0 a1 a2 a3 k, LeO (posternref05_Holds.f k a0 a1 a2 a3) (posternref05_Holds.f (k + 1) a0 a1 a2 a3) := by
 intro a0 a1 a2 a3 k
 obtain ⟨ih0, ih1⟩ := posternref05_Holds.mono_l k
 unfold posternref05_Holds.f
 repeat' first
   | (with_reducible exact ih0 _ _ _ _)
   | (with_reducible exact ih1 _ _ _ _ _)
   | (with_reducible exact posternref05_pow.mono _ _)
   | (with_reducible exact LeO.refl _)
   | (with_reducible exact LeO.none _)
   | (with_reducible refine LeO.ite ?_ ?_)
   | (with_reducible refine LeO.bind ?_ (fun _ => ?_))
   | exact ih0 _ _ _ _
   | exact ih1 _ _ _ _ _
   | exact posternref05_pow.mono _ _
   | exact LeO.none _
   | refine LeO.ite ?_ ?_
   | refine LeO.bind ?_ (fun _ => ?_)
set_option maxHeartbeats 8000000 in
set_option maxRecDepth 100000 in
theorem posternref05_Holds.calls (k : Nat) (a0 : Int) (a1 : Int) (a2 : Int) (a3 : Int) (r1 : Bool) (r2 : Bool) (w : World) (h : posternref05_Holds.f k a0 a1 a2 a3 = some (r1, r2)) :
  Calls Try.prog 34 #[.int .i64 a0, .int .i64 a1, .int .u64 a2, .int .u64 a3] w fun e w' => e = .returned (.tuple #[.bool r1, .bool r2]) ∧ Drawn0 w w' := by
 have H : (if a1 = 32 then (posternref05_Holds.j0 k a0 a1 (Int.tmod a2 4294967296) (Int.tmod a3 4294967296)) else (posternref05_Holds.j0 k a0 a1 a2 a3)) = some (r1, r2) := h
 clear h
 have HC5 := Aside0.mk H
 clear H
 go_enter Try.func34, Try.ntmps34
 go_upto_if 14 with (fail)
 go_cut [2, 3] (fun v2 v3 wc => ∃ (kq : Nat) (x2_4 : Int) (x3_4 : Int), v2 = .int .u64 x2_4 ∧ v3 = .int .u64 x3_4 ∧ Aside0 (posternref05_Holds.j0 kq a0 a1 x2_4 x3_4 = some (r1, r2)) ∧ Aside0 (kq ≤ k) ∧ Drawn0 w wc)
 case first =>
  have H := HC5.out
  clear HC5
  by_cases c6 : a1 = 32
  ·
   rw [if_pos c6] at H
   have c6b0 : (a1 == 32) = true := beq_iff_eq.mpr c6; have c6b1 : (a1 != 32) = false := bne_eq_false_iff_eq.mpr c6; clear c6
   (first | rw [c6b0] | (simp only [i64_w, i32_w]; rw [c6b0]) | skip)
   have H' := Aside0.mk H
   clear H
   go_wp2
   go_meet
   case rel => exact ⟨_, (Int.tmod a2 4294967296), (Int.tmod a3 4294967296), (by first | rfl | (simp; done) | (simp [*]; done)), (by first | rfl | (simp; done) | (simp [*]; done)), H', ⟨by first | omega | exact Nat.le_refl _⟩, by repeat (first | exact Drawn0.refl _ | apply Drawn0.step)⟩
  ·
   rw [if_neg c6] at H
   have c6b0 : (a1 == 32) = false := beq_eq_false_iff_ne.mpr c6; have c6b1 : (a1 != 32) = true := bne_iff_ne.mpr c6
   (first | rw [c6b0] | (simp only [i64_w, i32_w]; rw [c6b0]) | skip)
   have H' := Aside0.mk H
   clear H
   go_wp2
   go_meet
   case rel => exact ⟨_, (a2), (a3), (by first | rfl | (simp; done) | (simp [*]; done)), (by first | rfl | (simp; done) | (simp [*]; done)), H', ⟨by first | omega | exact Nat.le_refl _⟩, by repeat (first | exact Drawn0.refl _ | apply Drawn0.step)⟩
 case rest =>
  clear HC5
  try clear p2
  try clear c3
  try clear c6
  try clear c6b0
  try clear c6b1
  obtain ⟨kq, x2_4, x3_4, rfl, rfl, HA, HJ4, ⟨mc4, rfl⟩⟩ := hcut
  cases kq with
  | zero => exact absurd HA.out (by simp [posternref05_Holds.j0])
  | succ kj4 =>
   have H := HA.out
   clear HA
   simp only [posternref05_Holds.j0] at H
   replace H := Option.bind_eq_some_iff.mp H; obtain ⟨t263, A70, H⟩ := H
   replace H : (if a1 = 32 then (posternref05_Holds.j1 kj4 a0 x2_4 x3_4 (Int.tmod (IntKind.u64.wrap (x2_4 + t263)) 4294967296) (Int.tmod (IntKind.u64.wrap (x3_4 + t263)) 4294967296)) else (posternref05_Holds.j1 kj4 a0 x2_4 x3_4 (IntKind.u64.wrap (x2_4 + t263)) (IntKind.u64.wrap (x3_4 + t263)))) = some (r1, r2) := H
   have A7 := Aside0.mk A70; clear A70
   have HC8 := Aside0.mk H
   clear H
   go_upto_if 30 with (first | ((with_reducible refine gate_callee (f := 46) rfl ?_); refine goesL_ (some 22) rfl rfl Try.func46 (by kernel_rfl) rfl #[.int .u64 (IntKind.u64.wrap (wrap64 (a1 - 1)))] rfl (by (try simp only [List.map_toArray, List.map_cons, List.map_nil]); first | done | rfl | (simp only [List.length_drop, List.length_take]; rfl)) ?_; (with_reducible refine (posternref05_pow.calls kj4 (IntKind.u64.wrap (wrap64 (a1 - 1))) t263 _ A7.out).mono ?_); rintro e w' ⟨rfl, ⟨nd, rfl⟩⟩; refine ⟨_, rfl, ?_⟩))
   (try simp only [Act.put, List.setIfInBounds_toArray, List.set_cons_zero, List.set_cons_succ])
   go_cut [11, 12] (fun v11 v12 wc => ∃ (kq : Nat) (x11_7 : Int) (x12_7 : Int), v11 = .int .u64 x11_7 ∧ v12 = .int .u64 x12_7 ∧ Aside0 (posternref05_Holds.j1 kq a0 x2_4 x3_4 x11_7 x12_7 = some (r1, r2)) ∧ Aside0 (kq ≤ kj4) ∧ Drawn0 w wc)
   case first =>
    have H := HC8.out
    clear HC8
    by_cases c9 : a1 = 32
    ·
     rw [if_pos c9] at H
     have c9b0 : (a1 == 32) = true := beq_iff_eq.mpr c9; have c9b1 : (a1 != 32) = false := bne_eq_false_iff_eq.mpr c9; clear c9
     (first | rw [c9b0] | (simp only [i64_w, i32_w]; rw [c9b0]) | skip)
     have H' := Aside0.mk H
     clear H
     go_wp2
     go_meet
     case rel => exact ⟨_, (Int.tmod (IntKind.u64.wrap (x2_4 + t263)) 4294967296), (Int.tmod (IntKind.u64.wrap (x3_4 + t263)) 4294967296), (by first | rfl | (simp; done) | (simp [*]; done)), (by first | rfl | (simp; done) | (simp [*]; done)), H', ⟨by have := HJ4.out; first | omega | exact Nat.le_refl _⟩, by repeat (first | exact Drawn0.refl _ | apply Drawn0.step)⟩
    ·
     rw [if_neg c9] at H
     have c9b0 : (a1 == 32) = false := beq_eq_false_iff_ne.mpr c9; have c9b1 : (a1 != 32) = true := bne_iff_ne.mpr c9
     (first | rw [c9b0] | (simp only [i64_w, i32_w]; rw [c9b0]) | skip)
     have H' := Aside0.mk H
     clear H
     go_wp2
     go_meet
     case rel => exact ⟨_, (IntKind.u64.wrap (x2_4 + t263)), (IntKind.u64.wrap (x3_4 + t263)), (by first | rfl | (simp; done) | (simp [*]; done)), (by first | rfl | (simp; done) | (simp [*]; done)), H', ⟨by have := HJ4.out; first | omega | exact Nat.le_refl _⟩, by repeat (first | exact Drawn0.refl _ | apply Drawn0.step)⟩
   case rest =>
    clear HC8
    try clear p2
    try clear c3
    try clear c4
    try clear c6
    try clear c6b0
    try clear c6b1
    try clear p6
    try clear c9
    try clear c9b0
    try clear c9b1
    try clear p2
    obtain ⟨kq, x11_7, x12_7, rfl, rfl, HA, HJ7, ⟨mc7, rfl⟩⟩ := hcut
    cases kq with
    | zero => exact absurd HA.out (by simp [posternref05_Holds.j1])
    | succ kj7 =>
     have H := HA.out
     clear HA
     simp only [posternref05_Holds.j1] at H
     by_cases c10 : a0 = 16
     ·
      rw [if_pos c10] at H
      have c10b0 : (a0 == 16) = true := beq_iff_eq.mpr c10; have c10b1 : (a0 != 16) = false := bne_eq_false_iff_eq.mpr c10; clear c10; simp only [Option.some.injEq, Prod.mk.injEq] at H; obtain ⟨rfl, rfl⟩ := H
      go_wp2
      go_ret2
      exact ⟨by first | rfl | (simp; done) | (simp [*]; done), by repeat (first | exact Drawn0.refl _ | apply Drawn0.step)⟩
     ·
      rw [if_neg c10] at H
      have c10b0 : (a0 == 16) = false := beq_eq_false_iff_ne.mpr c10; have c10b1 : (a0 != 16) = true := bne_iff_ne.mpr c10
      by_cases c11 : a0 = 80
      ·
       rw [if_pos c11] at H
       have c11b0 : (a0 == 80) = true := beq_iff_eq.mpr c11; have c11b1 : (a0 != 80) = false := bne_eq_false_iff_eq.mpr c11; clear c11; simp only [Option.some.injEq, Prod.mk.injEq] at H; obtain ⟨rfl, rfl⟩ := H
       go_wp2
       go_ret2
       exact ⟨by first | rfl | (simp; done) | (simp [*]; done), by repeat (first | exact Drawn0.refl _ | apply Drawn0.step)⟩
      ·
       rw [if_neg c11] at H
       have c11b0 : (a0 == 80) = false := beq_eq_false_iff_ne.mpr c11; have c11b1 : (a0 != 80) = true := bne_iff_ne.mpr c11
       by_cases c12 : a0 = 32
       ·
        rw [if_pos c12] at H
        have c12b0 : (a0 == 32) = true := beq_iff_eq.mpr c12; have c12b1 : (a0 != 32) = false := bne_eq_false_iff_eq.mpr c12; clear c12; simp only [Option.some.injEq, Prod.mk.injEq] at H; obtain ⟨rfl, rfl⟩ := H
        go_wp2
        go_ret2
        exact ⟨by first | rfl | (simp; done) | (simp [*]; done), by repeat (first | exact Drawn0.refl _ | apply Drawn0.step)⟩
       ·
        rw [if_neg c12] at H
        have c12b0 : (a0 == 32) = false := beq_eq_false_iff_ne.mpr c12; have c12b1 : (a0 != 32) = true := bne_iff_ne.mpr c12
        by_cases c13 : a0 = 48
        ·
         rw [if_pos c13] at H
         have c13b0 : (a0 == 48) = true := beq_iff_eq.mpr c13; have c13b1 : (a0 != 48) = false := bne_eq_false_iff_eq.mpr c13; clear c13; simp only [Option.some.injEq, Prod.mk.injEq] at H; obtain ⟨rfl, rfl⟩ := H
         go_wp2
         go_ret2
         exact ⟨by first | rfl | (simp; done) | (simp [*]; done), by repeat (first | exact Drawn0.refl _ | apply Drawn0.step)⟩
        ·
         rw [if_neg c13] at H
         have c13b0 : (a0 == 48) = false := beq_eq_false_iff_ne.mpr c13; have c13b1 : (a0 != 48) = true := bne_iff_ne.mpr c13
         by_cases c14 : a0 = 160
         ·
          rw [if_pos c14] at H
          have c14b0 : (a0 == 160) = true := beq_iff_eq.mpr c14; have c14b1 : (a0 != 160) = false := bne_eq_false_iff_eq.mpr c14; clear c14; simp only [Option.some.injEq, Prod.mk.injEq] at H; obtain ⟨rfl, rfl⟩ := H
          go_wp2
          go_ret2
          exact ⟨by first | rfl | (simp; done) | (simp [*]; done), by repeat (first | exact Drawn0.refl _ | apply Drawn0.step)⟩
         ·
          rw [if_neg c14] at H
          have c14b0 : (a0 == 160) = false := beq_eq_false_iff_ne.mpr c14; have c14b1 : (a0 != 160) = true := bne_iff_ne.mpr c14
          by_cases c15 : a0 = 176
          ·
           rw [if_pos c15] at H
           have c15b0 : (a0 == 176) = true := beq_iff_eq.mpr c15; have c15b1 : (a0 != 176) = false := bne_eq_false_iff_eq.mpr c15; clear c15; simp only [Option.some.injEq, Prod.mk.injEq] at H; obtain ⟨rfl, rfl⟩ := H
           go_wp2
           go_ret2
           exact ⟨by first | rfl | (simp; done) | (simp [*]; done), by repeat (first | exact Drawn0.refl _ | apply Drawn0.step)⟩
          ·
           rw [if_neg c15] at H
           have c15b0 : (a0 == 176) = false := beq_eq_false_iff_ne.mpr c15; have c15b1 : (a0 != 176) = true := bne_iff_ne.mpr c15
           by_cases c16 : a0 = 96
           ·
            rw [if_pos c16] at H
            have c16b0 : (a0 == 96) = true := beq_iff_eq.mpr c16; have c16b1 : (a0 != 96) = false := bne_eq_false_iff_eq.mpr c16; clear c16; simp only [Option.some.injEq, Prod.mk.injEq] at H; obtain ⟨rfl, rfl⟩ := H
            go_wp2
            go_ret2
            exact ⟨by first | rfl | (simp; done) | (simp [*]; done), by repeat (first | exact Drawn0.refl _ | apply Drawn0.step)⟩
           ·
            rw [if_neg c16] at H
            have c16b0 : (a0 == 96) = false := beq_eq_false_iff_ne.mpr c16; have c16b1 : (a0 != 96) = true := bne_iff_ne.mpr c16
            by_cases c17 : a0 = 112
            ·
             rw [if_pos c17] at H
             have c17b0 : (a0 == 112) = true := beq_iff_eq.mpr c17; have c17b1 : (a0 != 112) = false := bne_eq_false_iff_eq.mpr c17; clear c17; simp only [Option.some.injEq, Prod.mk.injEq] at H; obtain ⟨rfl, rfl⟩ := H
             go_wp2
             go_ret2
             exact ⟨by first | rfl | (simp; done) | (simp [*]; done), by repeat (first | exact Drawn0.refl _ | apply Drawn0.step)⟩
            ·
             rw [if_neg c17] at H
             have c17b0 : (a0 == 112) = false := beq_eq_false_iff_ne.mpr c17; have c17b1 : (a0 != 112) = true := bne_iff_ne.mpr c17
             by_cases c18 : a0 = 192
             ·
              rw [if_pos c18] at H
              have c18b0 : (a0 == 192) = true := beq_iff_eq.mpr c18; have c18b1 : (a0 != 192) = false := bne_eq_false_iff_eq.mpr c18; clear c18; simp only [Option.some.injEq, Prod.mk.injEq] at H; obtain ⟨rfl, rfl⟩ := H
              go_wp2
              go_ret2
              exact ⟨by first | rfl | (simp; done) | (simp [*]; done), by repeat (first | exact Drawn0.refl _ | apply Drawn0.step)⟩
             ·
              rw [if_neg c18] at H
              have c18b0 : (a0 == 192) = false := beq_eq_false_iff_ne.mpr c18; have c18b1 : (a0 != 192) = true := bne_iff_ne.mpr c18
              by_cases c19 : a0 = 208
              ·
               rw [if_pos c19] at H
               have c19b0 : (a0 == 208) = true := beq_iff_eq.mpr c19; have c19b1 : (a0 != 208) = false := bne_eq_false_iff_eq.mpr c19; clear c19; simp only [Option.some.injEq, Prod.mk.injEq] at H; obtain ⟨rfl, rfl⟩ := H
               go_wp2
               go_ret2
               exact ⟨by first | rfl | (simp; done) | (simp [*]; done), by repeat (first | exact Drawn0.refl _ | apply Drawn0.step)⟩
              ·
               rw [if_neg c19] at H
               have c19b0 : (a0 == 208) = false := beq_eq_false_iff_ne.mpr c19; have c19b1 : (a0 != 208) = true := bne_iff_ne.mpr c19
               by_cases c20 : a0 = 64
               ·
                rw [if_pos c20] at H
                have c20b0 : (a0 == 64) = true := beq_iff_eq.mpr c20; have c20b1 : (a0 != 64) = false := bne_eq_false_iff_eq.mpr c20; clear c20; simp only [Option.some.injEq, Prod.mk.injEq] at H; obtain ⟨rfl, rfl⟩ := H
                go_wp2
                go_ret2
                exact ⟨by first | rfl | (simp; done) | (simp [*]; done), by repeat (first | exact Drawn0.refl _ | apply Drawn0.step)⟩
               ·
                rw [if_neg c20] at H
                have c20b0 : (a0 == 64) = false := beq_eq_false_iff_ne.mpr c20; have c20b1 : (a0 != 64) = true := bne_iff_ne.mpr c20; simp only [Option.some.injEq, Prod.mk.injEq] at H; obtain ⟨rfl, rfl⟩ := H
                go_wp2
                go_ret2
                exact ⟨by first | rfl | (simp; done) | (simp [*]; done), by repeat (first | exact Drawn0.refl _ | apply Drawn0.step)⟩

/-! ### posternlaw15_size: function 35 -/
def posternlaw15_size.f (a0 : Bool) : Option (Int) := if a0 = true then (some 64) else (some 32)
set_option maxHeartbeats 8000000 in
set_option maxRecDepth 100000 in
theorem posternlaw15_size.calls (a0 : Bool) (r : Int) (w : World) (h : posternlaw15_size.f a0 = some r) :
  Calls Try.prog 35 #[.bool a0] w fun e w' => e = .returned (.int .i64 r) ∧ Drawn0 w w' := by
 have H : (if a0 = true then (some 64) else (some 32)) = some r := h
 clear h
 by_cases c2 : a0 = true
 ·
  subst c2
  have H1 : (some 64) = some r := by rw [if_pos rfl] at H; exact H
  clear H; have H := H1; clear H1
  obtain rfl := Option.some.inj H
  go_enter Try.func35, Try.ntmps35
  go_wp2
  go_ret
  exact ⟨by first | rfl | (simp; done) | (simp [*]; done), by repeat (first | exact Drawn0.refl _ | apply Drawn0.step)⟩
 ·
  replace c2 := Bool.eq_false_iff.mpr c2
  subst c2
  have H1 : (some 32) = some r := by rw [if_neg (show ¬ (false = true) by decide)] at H; exact H
  clear H; have H := H1; clear H1
  obtain rfl := Option.some.inj H
  go_enter Try.func35, Try.ntmps35
  go_wp2
  go_ret
  exact ⟨by first | rfl | (simp; done) | (simp [*]; done), by repeat (first | exact Drawn0.refl _ | apply Drawn0.step)⟩

end Go.Proofs.Ytladlljnpmpdpaa.PSpanNarrow
