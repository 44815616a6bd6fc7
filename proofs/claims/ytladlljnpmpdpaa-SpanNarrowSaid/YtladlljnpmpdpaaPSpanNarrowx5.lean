-- Written by a program of this session (a variant of the print), for this claim. Lean checks it.
import Derived.Test.YtladlljnpmpdpaaPSpanNarrowx0
import Derived.Test.YtladlljnpmpdpaaPSpanNarrowx2
namespace Go.Proofs.Ytladlljnpmpdpaa.PSpanNarrow
open Go.RowKit Go.Proofs.YtladlljnpmpdpaaW.PrintWords Go.Proofs.YtladlljnpmpdpaaW.PrintLast Go.Proofs.YtladlljnpmpdpaaW.PrintMore
attribute [local go_sem] max2_int min2_int max_two min_two max_three min_three max_four min_four   -- for this text's walks alone
attribute [local go_sem high] Go.Proofs.Ytladlljnpmpdpaa.NotLaw.not_u64 Go.Proofs.Ytladlljnpmpdpaa.NotLaw.not_u32 Go.Proofs.Ytladlljnpmpdpaa.NotLaw.not_u16 Go.Proofs.Ytladlljnpmpdpaa.NotLaw.not_u8
set_option linter.unusedVariables false
set_option linter.unusedSimpArgs false

/-! ### alu_Holds: function 52 -/
def alu_Holds.j0 : Nat → Int → Int → Int → Option (Bool × Int)
 | 0, _, _, _ => none
 | k + 1, x0, x2, x3 => if x0 = 16 then (some ((x2 == x3), 0)) else (if x0 = 32 then (some (decide (x2 > x3), 0)) else (if x0 = 48 then (some (decide (x2 ≥ x3), 0)) else (if x0 = 64 then (some (((Go.bits .and .u64 x2 x3) != 0), 0)) else (if x0 = 80 then (some ((x2 != x3), 0)) else (if x0 = 96 then (some (decide ((wrap64 (x2)) > (wrap64 (x3))), 0)) else (if x0 = 112 then (some (decide ((wrap64 (x2)) ≥ (wrap64 (x3))), 0)) else (if x0 = 160 then (some (decide (x2 < x3), 0)) else (if x0 = 176 then (some (decide (x2 ≤ x3), 0)) else (if x0 = 192 then (some (decide ((wrap64 (x2)) < (wrap64 (x3))), 0)) else (if x0 = 208 then (some (decide ((wrap64 (x2)) ≤ (wrap64 (x3))), 0)) else (some (false, 2))))))))))))
def alu_Holds.f (k : Nat) (a0 : Int) (a1 : Bool) (a2 : Int) (a3 : Int) : Option (Bool × Int) := if a1 = true then (alu_Holds.j0 k a0 a2 a3) else (alu_Holds.j0 k a0 (IntKind.u64.wrap (wrap64 (wrap32 ((a2) % 4294967296)))) (IntKind.u64.wrap (wrap64 (wrap32 ((a3) % 4294967296)))))
theorem alu_Holds.mono_l : ∀ k, (∀ y0 y1 y2, LeO (alu_Holds.j0 k y0 y1 y2) (alu_Holds.j0 (k + 1) y0 y1 y2))
 | 0 => fun _ _ _ r h => by simp [alu_Holds.j0] at h
 | k + 1 => by
  have ih0 := alu_Holds.mono_l k
  ·
   intro y0 y1 y2
   unfold alu_Holds.j0
   repeat' first
   | (with_reducible exact ih0 _ _ _)
   | (with_reducible exact LeO.refl _)
   | (with_reducible exact LeO.none _)
   | (with_reducible refine LeO.ite ?_ ?_)
   | (with_reducible refine LeO.bind ?_ (fun _ => ?_))
   | exact ih0 _ _ _
   | exact LeO.none _
   | refine LeO.ite ?_ ?_
   | refine LeO.bind ?_ (fun _ => ?_)
theorem alu_Holds.mono : ∀ a0 a1 a2 a3 k, LeO (alu_Holds.f k a0 a1 a2 a3) (alu_Holds.f (k + 1) a0 a1 a2 a3) := by
 intro a0 a1 a2 a3 k
 have ih0 := alu_Holds.mono_l k
 unfold alu_Holds.f
 repeat' first
   | (with_reducible exact ih0 _ _ _)
   | (with_reducible exact LeO.refl _)
   | (with_reducible exact LeO.none _)
   | (with_reducible refine LeO.ite ?_ ?_)
   | (with_reducible refine LeO.bind ?_ (fun _ => ?_))
   | exact ih0 _ _ _
   | exact LeO.none _
   | refine LeO.ite ?_ ?_
   | refine LeO.bind ?_ (fun _ => ?_)
set_option maxHeartbeats 8000000 in
set_option maxRecDepth 100000 in
theorem alu_Holds.calls (k : Nat) (a0 : Int) (a1 : Bool) (a2 : Int) (a3 : Int) (r1 : Bool) (r2 : Int) (w : World) (h : alu_Holds.f k a0 a1 a2 a3 = some (r1, r2)) :
  Calls Try.prog 52 #[.int .i64 a0, .bool a1, .int .u64 a2, .int .u64 a3] w fun e w' => e = .returned (.tuple #[.bool r1, .int .i64 r2]) ∧ Drawn0 w w' := by
 have H : (if a1 = true then (alu_Holds.j0 k a0 a2 a3) else (alu_Holds.j0 k a0 (IntKind.u64.wrap (wrap64 (wrap32 ((a2) % 4294967296)))) (IntKind.u64.wrap (wrap64 (wrap32 ((a3) % 4294967296)))))) = some (r1, r2) := h
 clear h
 have HC5 := Aside0.mk H
 clear H
 go_enter Try.func52, Try.ntmps52
 go_upto_if 11 with (fail)
 go_cut [2, 3] (fun v2 v3 wc => ∃ (kq : Nat) (x2_4 : Int) (x3_4 : Int), v2 = .int .u64 x2_4 ∧ v3 = .int .u64 x3_4 ∧ Aside0 (alu_Holds.j0 kq a0 x2_4 x3_4 = some (r1, r2)) ∧ Aside0 (kq ≤ k) ∧ Drawn0 w wc)
 case first =>
  have H := HC5.out
  clear HC5
  by_cases c6 : a1 = true
  ·
   subst c6
   have H1 : (alu_Holds.j0 k a0 a2 a3) = some (r1, r2) := by rw [if_pos rfl] at H; exact H
   clear H; have H := H1; clear H1
   have H' := Aside0.mk H
   clear H
   go_wp2
   go_meet
   case rel => exact ⟨_, (a2), (a3), (by first | rfl | (simp; done) | (simp [*]; done)), (by first | rfl | (simp; done) | (simp [*]; done)), H', ⟨by first | omega | exact Nat.le_refl _⟩, by repeat (first | exact Drawn0.refl _ | apply Drawn0.step)⟩
  ·
   replace c6 := Bool.eq_false_iff.mpr c6
   subst c6
   have H1 : (alu_Holds.j0 k a0 (IntKind.u64.wrap (wrap64 (wrap32 ((a2) % 4294967296)))) (IntKind.u64.wrap (wrap64 (wrap32 ((a3) % 4294967296))))) = some (r1, r2) := by rw [if_neg (show ¬ (false = true) by decide)] at H; exact H
   clear H; have H := H1; clear H1
   have H' := Aside0.mk H
   clear H
   go_wp2
   go_meet
   case rel => exact ⟨_, (IntKind.u64.wrap (wrap64 (wrap32 ((a2) % 4294967296)))), (IntKind.u64.wrap (wrap64 (wrap32 ((a3) % 4294967296)))), (by first | rfl | (simp; done) | (simp [*]; done)), (by first | rfl | (simp; done) | (simp [*]; done)), H', ⟨by first | omega | exact Nat.le_refl _⟩, by repeat (first | exact Drawn0.refl _ | apply Drawn0.step)⟩
 case rest =>
  clear HC5
  try clear p2
  try clear p3
  try clear c5
  try clear c6
  try clear p6
  obtain ⟨kq, x2_4, x3_4, rfl, rfl, HA, HJ4, ⟨mc4, rfl⟩⟩ := hcut
  cases kq with
  | zero => exact absurd HA.out (by simp [alu_Holds.j0])
  | succ kj4 =>
   have H := HA.out
   clear HA
   simp only [alu_Holds.j0] at H
   by_cases c7 : a0 = 16
   ·
    rw [if_pos c7] at H
    have c7b0 : (a0 == 16) = true := beq_iff_eq.mpr c7; have c7b1 : (a0 != 16) = false := bne_eq_false_iff_eq.mpr c7; clear c7; simp only [Option.some.injEq, Prod.mk.injEq] at H; obtain ⟨rfl, rfl⟩ := H
    go_wp2
    go_ret2
    exact ⟨by first | rfl | (simp; done) | (simp [*]; done), by repeat (first | exact Drawn0.refl _ | apply Drawn0.step)⟩
   ·
    rw [if_neg c7] at H
    have c7b0 : (a0 == 16) = false := beq_eq_false_iff_ne.mpr c7; have c7b1 : (a0 != 16) = true := bne_iff_ne.mpr c7
    by_cases c8 : a0 = 32
    ·
     rw [if_pos c8] at H
     have c8b0 : (a0 == 32) = true := beq_iff_eq.mpr c8; have c8b1 : (a0 != 32) = false := bne_eq_false_iff_eq.mpr c8; clear c8; simp only [Option.some.injEq, Prod.mk.injEq] at H; obtain ⟨rfl, rfl⟩ := H
     go_wp2
     go_ret2
     exact ⟨by first | rfl | (simp; done) | (simp [*]; done), by repeat (first | exact Drawn0.refl _ | apply Drawn0.step)⟩
    ·
     rw [if_neg c8] at H
     have c8b0 : (a0 == 32) = false := beq_eq_false_iff_ne.mpr c8; have c8b1 : (a0 != 32) = true := bne_iff_ne.mpr c8
     by_cases c9 : a0 = 48
     ·
      rw [if_pos c9] at H
      have c9b0 : (a0 == 48) = true := beq_iff_eq.mpr c9; have c9b1 : (a0 != 48) = false := bne_eq_false_iff_eq.mpr c9; clear c9; simp only [Option.some.injEq, Prod.mk.injEq] at H; obtain ⟨rfl, rfl⟩ := H
      go_wp2
      go_ret2
      exact ⟨by first | rfl | (simp; done) | (simp [*]; done), by repeat (first | exact Drawn0.refl _ | apply Drawn0.step)⟩
     ·
      rw [if_neg c9] at H
      have c9b0 : (a0 == 48) = false := beq_eq_false_iff_ne.mpr c9; have c9b1 : (a0 != 48) = true := bne_iff_ne.mpr c9
      by_cases c10 : a0 = 64
      ·
       rw [if_pos c10] at H
       have c10b0 : (a0 == 64) = true := beq_iff_eq.mpr c10; have c10b1 : (a0 != 64) = false := bne_eq_false_iff_eq.mpr c10; clear c10; simp only [Option.some.injEq, Prod.mk.injEq] at H; obtain ⟨rfl, rfl⟩ := H
       go_wp2
       go_ret2
       exact ⟨by first | rfl | (simp; done) | (simp [*]; done), by repeat (first | exact Drawn0.refl _ | apply Drawn0.step)⟩
      ·
       rw [if_neg c10] at H
       have c10b0 : (a0 == 64) = false := beq_eq_false_iff_ne.mpr c10; have c10b1 : (a0 != 64) = true := bne_iff_ne.mpr c10
       by_cases c11 : a0 = 80
       ·
        rw [if_pos c11] at H
        have c11b0 : (a0 == 80) = true := beq_iff_eq.mpr c11; have c11b1 : (a0 != 80) = false := bne_eq_false_iff_eq.mpr c11; clear c11; simp only [Option.some.injEq, Prod.mk.injEq] at H; obtain ⟨rfl, rfl⟩ := H
        go_wp2
        go_ret2
        exact ⟨by first | rfl | (simp; done) | (simp [*]; done), by repeat (first | exact Drawn0.refl _ | apply Drawn0.step)⟩
       ·
        rw [if_neg c11] at H
        have c11b0 : (a0 == 80) = false := beq_eq_false_iff_ne.mpr c11; have c11b1 : (a0 != 80) = true := bne_iff_ne.mpr c11
        by_cases c12 : a0 = 96
        ·
         rw [if_pos c12] at H
         have c12b0 : (a0 == 96) = true := beq_iff_eq.mpr c12; have c12b1 : (a0 != 96) = false := bne_eq_false_iff_eq.mpr c12; clear c12; simp only [Option.some.injEq, Prod.mk.injEq] at H; obtain ⟨rfl, rfl⟩ := H
         go_wp2
         go_ret2
         exact ⟨by first | rfl | (simp; done) | (simp [*]; done), by repeat (first | exact Drawn0.refl _ | apply Drawn0.step)⟩
        ·
         rw [if_neg c12] at H
         have c12b0 : (a0 == 96) = false := beq_eq_false_iff_ne.mpr c12; have c12b1 : (a0 != 96) = true := bne_iff_ne.mpr c12
         by_cases c13 : a0 = 112
         ·
          rw [if_pos c13] at H
          have c13b0 : (a0 == 112) = true := beq_iff_eq.mpr c13; have c13b1 : (a0 != 112) = false := bne_eq_false_iff_eq.mpr c13; clear c13; simp only [Option.some.injEq, Prod.mk.injEq] at H; obtain ⟨rfl, rfl⟩ := H
          go_wp2
          go_ret2
          exact ⟨by first | rfl | (simp; done) | (simp [*]; done), by repeat (first | exact Drawn0.refl _ | apply Drawn0.step)⟩
         ·
          rw [if_neg c13] at H
          have c13b0 : (a0 == 112) = false := beq_eq_false_iff_ne.mpr c13; have c13b1 : (a0 != 112) = true := bne_iff_ne.mpr c13
          by_cases c14 : a0 = 160
          ·
           rw [if_pos c14] at H
           have c14b0 : (a0 == 160) = true := beq_iff_eq.mpr c14; have c14b1 : (a0 != 160) = false := bne_eq_false_iff_eq.mpr c14; clear c14; simp only [Option.some.injEq, Prod.mk.injEq] at H; obtain ⟨rfl, rfl⟩ := H
           go_wp2
           go_ret2
           exact ⟨by first | rfl | (simp; done) | (simp [*]; done), by repeat (first | exact Drawn0.refl _ | apply Drawn0.step)⟩
          ·
           rw [if_neg c14] at H
           have c14b0 : (a0 == 160) = false := beq_eq_false_iff_ne.mpr c14; have c14b1 : (a0 != 160) = true := bne_iff_ne.mpr c14
           by_cases c15 : a0 = 176
           ·
            rw [if_pos c15] at H
            have c15b0 : (a0 == 176) = true := beq_iff_eq.mpr c15; have c15b1 : (a0 != 176) = false := bne_eq_false_iff_eq.mpr c15; clear c15; simp only [Option.some.injEq, Prod.mk.injEq] at H; obtain ⟨rfl, rfl⟩ := H
            go_wp2
            go_ret2
            exact ⟨by first | rfl | (simp; done) | (simp [*]; done), by repeat (first | exact Drawn0.refl _ | apply Drawn0.step)⟩
           ·
            rw [if_neg c15] at H
            have c15b0 : (a0 == 176) = false := beq_eq_false_iff_ne.mpr c15; have c15b1 : (a0 != 176) = true := bne_iff_ne.mpr c15
            by_cases c16 : a0 = 192
            ·
             rw [if_pos c16] at H
             have c16b0 : (a0 == 192) = true := beq_iff_eq.mpr c16; have c16b1 : (a0 != 192) = false := bne_eq_false_iff_eq.mpr c16; clear c16; simp only [Option.some.injEq, Prod.mk.injEq] at H; obtain ⟨rfl, rfl⟩ := H
             go_wp2
             go_ret2
             exact ⟨by first | rfl | (simp; done) | (simp [*]; done), by repeat (first | exact Drawn0.refl _ | apply Drawn0.step)⟩
            ·
             rw [if_neg c16] at H
             have c16b0 : (a0 == 192) = false := beq_eq_false_iff_ne.mpr c16; have c16b1 : (a0 != 192) = true := bne_iff_ne.mpr c16
             by_cases c17 : a0 = 208
             ·
              rw [if_pos c17] at H
              have c17b0 : (a0 == 208) = true := beq_iff_eq.mpr c17; have c17b1 : (a0 != 208) = false := bne_eq_false_iff_eq.mpr c17; clear c17; simp only [Option.some.injEq, Prod.mk.injEq] at H; obtain ⟨rfl, rfl⟩ := H
              go_wp2
              go_ret2
              exact ⟨by first | rfl | (simp; done) | (simp [*]; done), by repeat (first | exact Drawn0.refl _ | apply Drawn0.step)⟩
             ·
              rw [if_neg c17] at H
              have c17b0 : (a0 == 208) = false := beq_eq_false_iff_ne.mpr c17; have c17b1 : (a0 != 208) = true := bne_iff_ne.mpr c17; simp only [Option.some.injEq, Prod.mk.injEq] at H; obtain ⟨rfl, rfl⟩ := H
              go_wp2
              go_ret2
              exact ⟨by first | rfl | (simp; done) | (simp [*]; done), by repeat (first | exact Drawn0.refl _ | apply Drawn0.step)⟩

/-! ### span_same: function 62 -/
def span_same.f (a0_0 : Int) (a0_1 : Int) (a1_0 : Int) (a1_1 : Int) : Option (Int × Int × Bool) := some (mx a0_0 a1_0, mn a0_1 a1_1, decide ((mx a0_0 a1_0) ≤ (mn a0_1 a1_1)))
def span_same.T2 : Bool × List (List Nat × List Nat) := (true, [([], []), ([], []), ([1], [1]), ([], []), ([3], [3]), ([2, 4], [2, 4]), ([0, 0], [0]), ([5, 6, 0, 1, 2, 3, 4, 5, 6], [5])])
def span_same.B2 : List Nat := [0, 0, 2, 0, 8, 30, 1, 127]
theorem span_same.tab2 : rtab .any (opsOf Try.f62 2) = span_same.T2 := by kernel_rfl
theorem span_same.bits2 : waitsOk span_same.T2.2 span_same.B2 = true := by kernel_rfl
set_option maxHeartbeats 8000000 in
set_option maxRecDepth 100000 in
theorem span_same.calls (a0_0 : Int) (a0_1 : Int) (a1_0 : Int) (a1_1 : Int) (r1 : Int) (r2 : Int) (r3 : Bool) (w : World) (h : span_same.f a0_0 a0_1 a1_0 a1_1 = some (r1, r2, r3)) :
  Calls Try.prog 62 #[.agg #[.int .u64 a0_0, .int .u64 a0_1], .agg #[.int .u64 a1_0, .int .u64 a1_1]] w fun e w' => e = .returned (.tuple #[.agg #[.int .u64 r1, .int .u64 r2], .bool r3]) ∧ Below w.heap.size w w' := by
 have hu58 := Try.underlying58
 have HB := Aside0.mk (Below.refl w.heap.size w)
 have H : (some (mx a0_0 a1_0, mn a0_1 a1_1, decide ((mx a0_0 a1_0) ≤ (mn a0_1 a1_1)))) = some (r1, r2, r3) := h
 clear h
 obtain ⟨ji3, hji3⟩ : ∃ j_ : Int, (mx a0_0 a1_0) = j_ := ⟨_, rfl⟩
 replace H : (some (ji3, mn a0_1 a1_1, decide ((ji3) ≤ (mn a0_1 a1_1)))) = some (r1, r2, r3) := by first | (rw [hji3] at H; exact H) | (simp only [hji3] at H ⊢; exact H)
 have hji3_ : (if a0_0 < a1_0 then a1_0 else a0_0) = ji3 := hji3
 obtain ⟨ji4, hji4⟩ : ∃ j_ : Int, (mn a0_1 a1_1) = j_ := ⟨_, rfl⟩
 replace H : (some (ji3, ji4, decide ((ji3) ≤ (ji4)))) = some (r1, r2, r3) := by first | (rw [hji4] at H; exact H) | (simp only [hji4] at H ⊢; exact H)
 have hji4_ : (if a1_1 < a0_1 then a1_1 else a0_1) = ji4 := hji4
 simp only [Option.some.injEq, Prod.mk.injEq] at H; obtain ⟨rfl, rfl, rfl⟩ := H
 go_enter Try.func62, Try.ntmps62
 try go_wp2_with (first | ((with_reducible refine gate_dst (N := 2) rfl ?_); refine box_event ?hg (N := 2) ?hd (cs := #[.int .u64 a0_0, .int .u64 a0_1]) (t := 58) ?hr ?_; (case hd => rfl); (case hg => rfl); (case hr => first | (go_simp; done) | (go_simp; rfl)); intro gb151 hg w5 hbox hb; have n0_ := Aside0.mk (below_step (by repeat (first | (with_reducible first | exact HB.out | apply lA | apply lN | apply lD) | exact HB.out)) hb); have n1_ := Aside0.mk (hbox); have n2_ := Aside0.mk ((by rw [hg]; exact (below_size (by repeat (first | (with_reducible first | exact HB.out | apply lA | apply lN | apply lD) | exact HB.out))) : w.heap.size ≤ gb151)); have n3_ := n2_; clear HB; have HB := n0_; have BK151 := n1_; have GW151 := n2_; have GE151 := n3_; clear n0_ n1_ n2_ n3_; clear hb hbox hg) | ((with_reducible refine gate_dst (N := 3) rfl ?_); refine box_event ?hg (N := 3) ?hd (cs := #[.int .u64 a1_0, .int .u64 a1_1]) (t := 58) ?hr ?_; (case hd => rfl); (case hg => rfl); (case hr => first | (go_simp; done) | (go_simp; rfl)); intro gb152 hg w6 hbox hb; have n0_ := Aside0.mk (blk_below (g := gb151) (o := .cells #[.int .u64 a0_0, .int .u64 a0_1] 58 (0, 0)) (by (with_reducible repeat (first | apply bN | apply bD | apply bA)); exact BK151.out) hb); have n1_ := Aside0.mk (below_step (by repeat (first | (with_reducible first | exact HB.out | apply lA | apply lN | apply lD | refine lS ?_ ‹_›) | exact HB.out)) hb); have n2_ := Aside0.mk (hbox); have n3_ := Aside0.mk ((by rw [hg]; exact (below_size (by repeat (first | (with_reducible first | exact HB.out | apply lA | apply lN | apply lD | refine lS ?_ ‹_›) | exact HB.out))) : w.heap.size ≤ gb152)); have n4_ := n3_; have n5_ := Aside0.mk ((by rw [hg]; exact Nat.ne_of_lt (blk_lt (g := gb151) (o := .cells #[.int .u64 a0_0, .int .u64 a0_1] 58 (0, 0)) (by (with_reducible repeat (first | apply bN | apply bD | apply bA)); exact BK151.out)) : gb151 ≠ gb152)); have n6_ := sy n5_; clear BK151; clear HB; have BK151 := n0_; have HB := n1_; have BK152 := n2_; have GW152 := n3_; have GE152 := n4_; have NB151_152 := n5_; have NB152_151 := n6_; clear n0_ n1_ n2_ n3_ n4_ n5_ n6_; clear hb hbox hg) | ((with_reducible refine gate_dst (N := 4) rfl ?_); refine box_event ?hg (N := 4) ?hd (cs := #[.int .u64 0, .int .u64 0]) (t := 58) ?hr ?_; (case hd => rfl); (case hg => rfl); (case hr => first | (go_simp; done) | (go_simp; rfl)); intro gb153 hg w7 hbox hb; have n0_ := Aside0.mk (blk_below (g := gb151) (o := .cells #[.int .u64 a0_0, .int .u64 a0_1] 58 (0, 0)) (by (with_reducible repeat (first | apply bN | apply bD | apply bA)); exact BK151.out) hb); have n1_ := Aside0.mk (blk_below (g := gb152) (o := .cells #[.int .u64 a1_0, .int .u64 a1_1] 58 (0, 0)) (by (with_reducible repeat (first | apply bN | apply bD | apply bA)); exact BK152.out) hb); have n2_ := Aside0.mk (below_step (by repeat (first | (with_reducible first | exact HB.out | apply lA | apply lN | apply lD | refine lS ?_ ‹_›) | exact HB.out)) hb); have n3_ := Aside0.mk (hbox); have n4_ := Aside0.mk ((by rw [hg]; exact (below_size (by repeat (first | (with_reducible first | exact HB.out | apply lA | apply lN | apply lD | refine lS ?_ ‹_›) | exact HB.out))) : w.heap.size ≤ gb153)); have n5_ := n4_; have n6_ := Aside0.mk ((by rw [hg]; exact Nat.ne_of_lt (blk_lt (g := gb151) (o := .cells #[.int .u64 a0_0, .int .u64 a0_1] 58 (0, 0)) (by (with_reducible repeat (first | apply bN | apply bD | apply bA)); exact BK151.out)) : gb151 ≠ gb153)); have n7_ := sy n6_; have n8_ := Aside0.mk ((by rw [hg]; exact Nat.ne_of_lt (blk_lt (g := gb152) (o := .cells #[.int .u64 a1_0, .int .u64 a1_1] 58 (0, 0)) (by (with_reducible repeat (first | apply bN | apply bD | apply bA)); exact BK152.out)) : gb152 ≠ gb153)); have n9_ := sy n8_; clear BK151; clear BK152; clear HB; have BK151 := n0_; have BK152 := n1_; have HB := n2_; have BK153 := n3_; have GW153 := n4_; have GE153 := n5_; have NB151_153 := n6_; have NB153_151 := n7_; have NB152_153 := n8_; have NB153_152 := n9_; clear n0_ n1_ n2_ n3_ n4_ n5_ n6_ n7_ n8_ n9_; clear hb hbox hg; have hnb8 := NB151_152.out; have hnc8 := NB152_151.out; have hnb9 := NB151_153.out; have hnc9 := NB153_151.out; have hcz10_0 : w7.cell? ⟨gb151, 0, none⟩ = some (.int .u64 a0_0) := (blk_cell BK151.out 0).trans rfl; have hcz10_1 : w7.cell? ⟨gb151, 1, none⟩ = some (.int .u64 a0_1) := (blk_cell BK151.out 1).trans rfl; have hfz10_0 := blk_frozen BK151.out 0; have hfz10_1 := blk_frozen BK151.out 1; have hnb11 := NB152_153.out; have hnc11 := NB153_152.out; have hcz12_0 : w7.cell? ⟨gb152, 0, none⟩ = some (.int .u64 a1_0) := (blk_cell BK152.out 0).trans rfl; have hcz12_1 : w7.cell? ⟨gb152, 1, none⟩ = some (.int .u64 a1_1) := (blk_cell BK152.out 1).trans rfl; have hfz12_0 := blk_frozen BK152.out 0; have hfz12_1 := blk_frozen BK152.out 1) | ((with_reducible refine gate_dst (N := 6) rfl ?_); refine box_event ?hg (N := 6) ?hd (cs := #[.int .u64 0, .int .u64 0]) (t := 58) ?hr ?_; (case hd => rfl); (case hg => rfl); (case hr => first | (go_simp; done) | (go_simp; rfl)); intro gb154 hg w13 hbox hb; have n0_ := Aside0.mk (blk_below (g := gb151) (o := .cells #[.int .u64 a0_0, .int .u64 a0_1] 58 (0, 0)) (by (with_reducible repeat (first | apply bN | apply bD | apply bA)); exact BK151.out) hb); have n1_ := Aside0.mk (blk_below (g := gb152) (o := .cells #[.int .u64 a1_0, .int .u64 a1_1] 58 (0, 0)) (by (with_reducible repeat (first | apply bN | apply bD | apply bA)); exact BK152.out) hb); have n2_ := Aside0.mk (blk_below (g := gb153) (o := .cells #[.int .u64 0, .int .u64 0] 58 (0, 0)) (by (with_reducible repeat (first | apply bN | apply bD | apply bA)); exact BK153.out) hb); have n3_ := Aside0.mk (below_step (by repeat (first | (with_reducible first | exact HB.out | apply lA | apply lN | apply lD | refine lS ?_ ‹_›) | exact HB.out)) hb); have n4_ := Aside0.mk (hbox); have n5_ := Aside0.mk ((by rw [hg]; exact (below_size (by repeat (first | (with_reducible first | exact HB.out | apply lA | apply lN | apply lD | refine lS ?_ ‹_›) | exact HB.out))) : w.heap.size ≤ gb154)); have n6_ := n5_; have n7_ := Aside0.mk ((by rw [hg]; exact Nat.ne_of_lt (blk_lt (g := gb151) (o := .cells #[.int .u64 a0_0, .int .u64 a0_1] 58 (0, 0)) (by (with_reducible repeat (first | apply bN | apply bD | apply bA)); exact BK151.out)) : gb151 ≠ gb154)); have n8_ := sy n7_; have n9_ := Aside0.mk ((by rw [hg]; exact Nat.ne_of_lt (blk_lt (g := gb152) (o := .cells #[.int .u64 a1_0, .int .u64 a1_1] 58 (0, 0)) (by (with_reducible repeat (first | apply bN | apply bD | apply bA)); exact BK152.out)) : gb152 ≠ gb154)); have n10_ := sy n9_; have n11_ := Aside0.mk ((by rw [hg]; exact Nat.ne_of_lt (blk_lt (g := gb153) (o := .cells #[.int .u64 0, .int .u64 0] 58 (0, 0)) (by (with_reducible repeat (first | apply bN | apply bD | apply bA)); exact BK153.out)) : gb153 ≠ gb154)); have n12_ := sy n11_; clear BK151; clear BK152; clear BK153; clear HB; have BK151 := n0_; have BK152 := n1_; have BK153 := n2_; have HB := n3_; have BK154 := n4_; have GW154 := n5_; have GE154 := n6_; have NB151_154 := n7_; have NB154_151 := n8_; have NB152_154 := n9_; have NB154_152 := n10_; have NB153_154 := n11_; have NB154_153 := n12_; clear n0_ n1_ n2_ n3_ n4_ n5_ n6_ n7_ n8_ n9_ n10_ n11_ n12_; clear hb hbox hg; have hnb14 := NB154_151.out; have hnc14 := NB151_154.out; have hnb15 := NB154_152.out; have hnc15 := NB152_154.out; have hnb16 := NB154_153.out; have hnc16 := NB153_154.out; have hcz17_0 : w13.cell? ⟨gb154, 0, none⟩ = some (.int .u64 0) := (blk_cell BK154.out 0).trans rfl; have hcz17_1 : w13.cell? ⟨gb154, 1, none⟩ = some (.int .u64 0) := (blk_cell BK154.out 1).trans rfl; have hfz17_0 := blk_frozen BK154.out 0; have hfz17_1 := blk_frozen BK154.out 1))
 have n0_ : Aside0 (((w13.setCell ⟨gb154, 0, none⟩ (.int .u64 ji3)).setCell ⟨gb154, 1, none⟩ (.int .u64 ji4)).heap[gb151]? = some (.cells #[.int .u64 a0_0, .int .u64 a0_1] 58 (0, 0))) := ⟨by (with_reducible repeat (first | apply bN | apply bD | apply bA)); refine blk_far ?_ NB151_154.out _; (with_reducible repeat (first | apply bN | apply bD | apply bA)); refine blk_far ?_ NB151_154.out _; (with_reducible repeat (first | apply bN | apply bD | apply bA)); exact BK151.out⟩
 have n1_ : Aside0 (((w13.setCell ⟨gb154, 0, none⟩ (.int .u64 ji3)).setCell ⟨gb154, 1, none⟩ (.int .u64 ji4)).heap[gb152]? = some (.cells #[.int .u64 a1_0, .int .u64 a1_1] 58 (0, 0))) := ⟨by (with_reducible repeat (first | apply bN | apply bD | apply bA)); refine blk_far ?_ NB152_154.out _; (with_reducible repeat (first | apply bN | apply bD | apply bA)); refine blk_far ?_ NB152_154.out _; (with_reducible repeat (first | apply bN | apply bD | apply bA)); exact BK152.out⟩
 have n2_ : Aside0 (((w13.setCell ⟨gb154, 0, none⟩ (.int .u64 ji3)).setCell ⟨gb154, 1, none⟩ (.int .u64 ji4)).heap[gb153]? = some (.cells #[.int .u64 0, .int .u64 0] 58 (0, 0))) := ⟨by (with_reducible repeat (first | apply bN | apply bD | apply bA)); refine blk_far ?_ NB153_154.out _; (with_reducible repeat (first | apply bN | apply bD | apply bA)); refine blk_far ?_ NB153_154.out _; (with_reducible repeat (first | apply bN | apply bD | apply bA)); exact BK153.out⟩
 have n3_ : Aside0 (((w13.setCell ⟨gb154, 0, none⟩ (.int .u64 ji3)).setCell ⟨gb154, 1, none⟩ (.int .u64 ji4)).heap[gb154]? = some (.cells #[.int .u64 ji3, .int .u64 ji4] 58 (0, 0))) := ⟨by (with_reducible repeat (first | apply bN | apply bD | apply bA)); refine blk_put (cs := #[.int .u64 ji3, .int .u64 0]) ?_ 1 _ rfl; (with_reducible repeat (first | apply bN | apply bD | apply bA)); refine blk_put (cs := #[.int .u64 0, .int .u64 0]) ?_ 0 _ rfl; (with_reducible repeat (first | apply bN | apply bD | apply bA)); exact BK154.out⟩
 have n4_ : Aside0 (Below w.heap.size w ((w13.setCell ⟨gb154, 0, none⟩ (.int .u64 ji3)).setCell ⟨gb154, 1, none⟩ (.int .u64 ji4))) := ⟨by repeat (first | (with_reducible first | exact HB.out | apply lA | apply lN | apply lD | refine lS ?_ ‹_›) | exact HB.out)⟩
 (try clear BK151)
 (try clear BK152)
 (try clear BK153)
 (try clear BK154)
 (try clear HB)
 generalize ((w13.setCell ⟨gb154, 0, none⟩ (.int .u64 ji3)).setCell ⟨gb154, 1, none⟩ (.int .u64 ji4)) = w18 at n0_ n1_ n2_ n3_ n4_ ⊢
 have BK151 := n0_; have BK152 := n1_; have BK153 := n2_; have BK154 := n3_; have HB := n4_; clear n0_ n1_ n2_ n3_ n4_; have n0_ := Aside0.mk (blk_drew BK151.out); have n1_ := Aside0.mk (blk_drew BK152.out); have n2_ := Aside0.mk (blk_drew BK153.out); have n3_ := Aside0.mk (blk_drew BK154.out)
 have n4_ := Aside0.mk (below_drew1 HB.out)
 clear BK151; clear BK152; clear BK153; clear BK154; clear HB; have BK151 := n0_; have BK152 := n1_; have BK153 := n2_; have BK154 := n3_; have HB := n4_; clear n0_ n1_ n2_ n3_ n4_
 refine start_ (n := 8) (S := fun w' => w'.cell? ⟨gb154, 0, none⟩ = some (.int .u64 ji3) ∧ w'.cell? ⟨gb154, 1, none⟩ = some (.int .u64 ji4)) (ds := []) #[false, false, false, false, false, false, false, false] (by kernel_rfl) rfl rfl ⟨(blk_cell BK154.out 0).trans rfl, (blk_cell BK154.out 1).trans rfl⟩ (fun hHeld => ?_); refine with_tabW span_same.tab2 span_same.bits2 (fun HT_ HW_ => ?_)
 generalize w18.drew = w19 at BK151 BK152 BK153 BK154 HB hHeld ⊢
 refine pure_ (i := 1) (N := some 19) (v := ?_) (a' := ?_) #[false, true, false, false, false, false, false, false] rfl rfl (any_of HT_.out (by kernel_rfl)) (fun _ _ _ h => h) (Or.inl ⟨by rfl, ?_⟩) ?_ ?_
 rotate_left
 ·
  intro w'
  go_simp; with_reducible rfl
 rotate_left
 ·
  simp only [Act.put, List.setIfInBounds_toArray, List.set_cons_zero, List.set_cons_succ, i64_w, i32_w]
  rfl
 refine pure_ (i := 3) (N := some 21) (v := ?_) (a' := ?_) #[false, true, false, true, false, false, false, false] rfl rfl (any_of HT_.out (by kernel_rfl)) (fun _ _ _ h => h) (Or.inl ⟨by rfl, ?_⟩) ?_ ?_
 rotate_left
 ·
  intro w'
  go_simp; with_reducible rfl
 rotate_left
 ·
  simp only [Act.put, List.setIfInBounds_toArray, List.set_cons_zero, List.set_cons_succ, i64_w, i32_w]
  rfl
 refine take_ (i := 0) (N := some 18) (v := ?_) (a' := ?_) #[true, true, false, true, false, false, false, false] rfl rfl (take_ofW HT_.out HW_.out (by kernel_rfl)) (fun _ _ _ h => h) (Or.inl ⟨by rfl, ?_⟩) hHeld ?_ ?_
 rotate_left
 ·
  rintro w' ⟨s0, s1⟩
  go_simp; with_reducible rfl
 rotate_left
 ·
  simp only [Act.put, List.setIfInBounds_toArray, List.set_cons_zero, List.set_cons_succ, i64_w, i32_w]
  rfl
 refine take_ (i := 2) (N := some 20) (v := ?_) (a' := ?_) #[true, true, true, true, false, false, false, false] rfl rfl (take_ofW HT_.out HW_.out (by kernel_rfl)) (fun _ _ _ h => h) (Or.inl ⟨by rfl, ?_⟩) hHeld ?_ ?_
 rotate_left
 ·
  rintro w' ⟨s0, s1⟩
  go_simp; with_reducible rfl
 rotate_left
 ·
  simp only [Act.put, List.setIfInBounds_toArray, List.set_cons_zero, List.set_cons_succ, i64_w, i32_w]
  rfl
 refine take_ (i := 4) (N := some 22) (v := ?_) (a' := ?_) #[true, true, true, true, true, false, false, false] rfl rfl (take_ofW HT_.out HW_.out (by kernel_rfl)) (fun _ _ _ h => h) (Or.inl ⟨by rfl, ?_⟩) hHeld ?_ ?_
 rotate_left
 ·
  rintro w' ⟨s0, s1⟩
  go_simp; with_reducible rfl
 rotate_left
 ·
  simp only [Act.put, List.setIfInBounds_toArray, List.set_cons_zero, List.set_cons_succ, i64_w, i32_w]
  rfl
 refine pure_ (i := 5) (N := some 23) (v := ?_) (a' := ?_) #[true, true, true, true, true, true, false, false] rfl rfl (any_of HT_.out (by kernel_rfl)) (fun _ _ _ h => h) (Or.inl ⟨by rfl, ?_⟩) ?_ ?_
 rotate_left
 ·
  intro w'
  go_simp; with_reducible rfl
 rotate_left
 ·
  simp only [Act.put, List.setIfInBounds_toArray, List.set_cons_zero, List.set_cons_succ, i64_w, i32_w]
  rfl
 refine one_ (i := 6) (N := none) #[true, true, true, true, true, true, true, false] rfl rfl (one_of HT_.out (by kernel_rfl)) (by decide) (fun K hK => ?_)
 have hs20 : w19.cell? ⟨gb153, 0, none⟩ = some (.int .u64 0) := (blk_cell BK153.out 0).trans rfl
 have hfs20 := blk_frozen BK153.out 0
 have hns20_0 := NB151_153.out
 have hns20_1 := NB152_153.out
 have hns20_3 := NB154_153.out
 have hms20_0 := NB153_151.out
 have hms20_1 := NB153_152.out
 have hms20_3 := NB153_154.out
 have hs21 : w19.cell? ⟨gb153, 1, none⟩ = some (.int .u64 0) := (blk_cell BK153.out 1).trans rfl
 have hfs21 := blk_frozen BK153.out 1
 have hns21_0 := NB151_153.out
 have hns21_1 := NB152_153.out
 have hns21_3 := NB154_153.out
 have hms21_0 := NB153_151.out
 have hms21_1 := NB153_152.out
 have hms21_3 := NB153_154.out
 refine skip_ (w1 := ?_) (by rfl) rfl ?_ ?_
 rotate_left
 ·
  go_simp
  rfl
 refine hK.out _ _ ⟨((cell_far (p := ⟨gb153, _, none⟩) NB154_153.out _).trans (((cell_far (p := ⟨gb153, _, none⟩) NB154_153.out _).trans (hHeld.1)))), ((cell_far (p := ⟨gb153, _, none⟩) NB154_153.out _).trans (((cell_far (p := ⟨gb153, _, none⟩) NB154_153.out _).trans (hHeld.2))))⟩ (fun hHeld => ?_)
 clear hK K
 refine pure_ (i := 7) (N := some 5) (v := ?_) (a' := ?_) #[true, true, true, true, true, true, true, true] rfl rfl (any_of HT_.out (by kernel_rfl)) (fun _ _ _ h => h) (Or.inl ⟨by rfl, ?_⟩) ?_ ?_
 rotate_left
 ·
  intro w'
  go_simp; with_reducible rfl
 rotate_left
 ·
  simp only [Act.put, List.setIfInBounds_toArray, List.set_cons_zero, List.set_cons_succ, i64_w, i32_w]
  rfl
 refine done_ (done_of HT_.out (by kernel_rfl)) ?_
 try go_wp2
 refine bodyPost_ret (results_ct rfl _ _ gb153 58 #[.int .u64 ji3, .int .u64 ji4] (0, 0) _ rfl (by (with_reducible repeat (first | apply bN | apply bD | apply bA)); refine blk_put (cs := #[.int .u64 ji3, .int .u64 0]) ?_ 1 _ rfl; (with_reducible repeat (first | apply bN | apply bD | apply bA)); refine blk_put (cs := #[.int .u64 0, .int .u64 0]) ?_ 0 _ rfl; (with_reducible repeat (first | apply bN | apply bD | apply bA)); exact BK153.out) Try.underlying58 rfl (by kernel_rfl)) rfl ?_
 exact ⟨by first | rfl | (simp [errW_none, errW_some] <;> rfl) | (simp only [← hji3, ← hji4]; first | rfl | (simp [errW_none, errW_some] <;> rfl)) | (simp [*, errW_none, errW_some] <;> rfl), by repeat (first | (with_reducible first | exact HB.out | apply lA | apply lN | apply lD | refine lS ?_ ‹_›) | exact HB.out)⟩

/-! ### span_unlike_1: function 65 -/
def span_unlike_1.j0 : Nat → Bool → Int → Int → Int → Int → Option (Int × Int)
 | 0, _, _, _, _, _ => none
 | k + 1, x5, x156000, x156001, x157000, x157001 => if x5 = true then (some (x156000, x156001)) else (if x156000 = x157000 then (some (IntKind.u64.wrap (x156000 + 1), x156001)) else (if x156001 = x157000 then (some (x156000, IntKind.u64.wrap (x156001 - 1))) else (some (x156000, x156001))))
def span_unlike_1.f (k : Nat) (a0_0 : Int) (a0_1 : Int) (a1_0 : Int) (a1_1 : Int) : Option (Int × Int) := (span_one.f a1_0 a1_1).bind fun t158 => (if t158 = true then ((span_one.f a0_0 a0_1).bind fun t159 => (span_unlike_1.j0 k t159 a0_0 a0_1 a1_0 a1_1)) else (span_unlike_1.j0 k true a0_0 a0_1 a1_0 a1_1))
theorem span_unlike_1.mono_l : ∀ k, (∀ y0 y1 y2 y3 y4, LeO (span_unlike_1.j0 k y0 y1 y2 y3 y4) (span_unlike_1.j0 (k + 1) y0 y1 y2 y3 y4))
 | 0 => fun _ _ _ _ _ r h => by simp [span_unlike_1.j0] at h
 | k + 1 => by
  have ih0 := span_unlike_1.mono_l k
  ·
   intro y0 y1 y2 y3 y4
   unfold span_unlike_1.j0
   repeat' first
   | (with_reducible exact ih0 _ _ _ _ _)
   | (with_reducible exact LeO.refl _)
   | (with_reducible exact LeO.none _)
   | (with_reducible refine LeO.ite ?_ ?_)
   | (with_reducible refine LeO.bind ?_ (fun _ => ?_))
   | exact ih0 _ _ _ _ _
   | exact LeO.none _
   | refine LeO.ite ?_ ?_
   | refine LeO.bind ?_ (fun _ => ?_)
theorem span_unlike_1.mono : ∀ a0 a1 a2 a3 k, LeO (span_unlike_1.f k a0 a1 a2 a3) (span_unlike_1.f (k + 1) a0 a1 a2 a3) := by
 intro a0 a1 a2 a3 k
 have ih0 := span_unlike_1.mono_l k
 unfold span_unlike_1.f
 repeat' first
   | (with_reducible exact ih0 _ _ _ _ _)
   | (with_reducible exact LeO.refl _)
   | (with_reducible exact LeO.none _)
   | (with_reducible refine LeO.ite ?_ ?_)
   | (with_reducible refine LeO.bind ?_ (fun _ => ?_))
   | exact ih0 _ _ _ _ _
   | exact LeO.none _
   | refine LeO.ite ?_ ?_
   | refine LeO.bind ?_ (fun _ => ?_)
set_option maxHeartbeats 8000000 in
set_option maxRecDepth 100000 in
theorem span_unlike_1.calls (k : Nat) (a0_0 : Int) (a0_1 : Int) (a1_0 : Int) (a1_1 : Int) (r1 : Int) (r2 : Int) (w : World) (h : span_unlike_1.f k a0_0 a0_1 a1_0 a1_1 = some (r1, r2)) :
  Calls Try.prog 65 #[.agg #[.int .u64 a0_0, .int .u64 a0_1], .agg #[.int .u64 a1_0, .int .u64 a1_1]] w fun e w' => e = .returned (.agg #[.int .u64 r1, .int .u64 r2]) ∧ Below w.heap.size w w' := by
 have hu58 := Try.underlying58
 have HB := Aside0.mk (Below.refl w.heap.size w)
 have H : ((span_one.f a1_0 a1_1).bind fun t158 => (if t158 = true then ((span_one.f a0_0 a0_1).bind fun t159 => (span_unlike_1.j0 k t159 a0_0 a0_1 a1_0 a1_1)) else (span_unlike_1.j0 k true a0_0 a0_1 a1_0 a1_1))) = some (r1, r2) := h
 clear h
 have HC3 := Aside0.mk H
 clear H
 go_enter Try.func65, Try.ntmps65
 go_upto_region 1 with (first | ((with_reducible refine gate_dst (N := 2) rfl ?_); refine box_event ?hg (N := 2) ?hd (cs := #[.int .u64 a0_0, .int .u64 a0_1]) (t := 58) ?hr ?_; (case hd => rfl); (case hg => rfl); (case hr => first | (go_simp; done) | (go_simp; rfl)); intro gb155 hg w4 hbox hb; have n0_ := Aside0.mk (below_step (by repeat (first | (with_reducible first | exact HB.out | apply lA | apply lN | apply lD) | exact HB.out)) hb); have n1_ := Aside0.mk (hbox); have n2_ := Aside0.mk ((by rw [hg]; exact (below_size (by repeat (first | (with_reducible first | exact HB.out | apply lA | apply lN | apply lD) | exact HB.out))) : w.heap.size ≤ gb155)); have n3_ := n2_; clear HB; have HB := n0_; have BK155 := n1_; have GW155 := n2_; have GE155 := n3_; clear n0_ n1_ n2_ n3_; clear hb hbox hg) | ((with_reducible refine gate_dst (N := 3) rfl ?_); refine box_event ?hg (N := 3) ?hd (cs := #[.int .u64 a1_0, .int .u64 a1_1]) (t := 58) ?hr ?_; (case hd => rfl); (case hg => rfl); (case hr => first | (go_simp; done) | (go_simp; rfl)); intro gb156 hg w5 hbox hb; have n0_ := Aside0.mk (blk_below (g := gb155) (o := .cells #[.int .u64 a0_0, .int .u64 a0_1] 58 (0, 0)) (by (with_reducible repeat (first | apply bN | apply bD | apply bA)); exact BK155.out) hb); have n1_ := Aside0.mk (below_step (by repeat (first | (with_reducible first | exact HB.out | apply lA | apply lN | apply lD | refine lS ?_ ‹_›) | exact HB.out)) hb); have n2_ := Aside0.mk (hbox); have n3_ := Aside0.mk ((by rw [hg]; exact (below_size (by repeat (first | (with_reducible first | exact HB.out | apply lA | apply lN | apply lD | refine lS ?_ ‹_›) | exact HB.out))) : w.heap.size ≤ gb156)); have n4_ := n3_; have n5_ := Aside0.mk ((by rw [hg]; exact Nat.ne_of_lt (blk_lt (g := gb155) (o := .cells #[.int .u64 a0_0, .int .u64 a0_1] 58 (0, 0)) (by (with_reducible repeat (first | apply bN | apply bD | apply bA)); exact BK155.out)) : gb155 ≠ gb156)); have n6_ := sy n5_; clear BK155; clear HB; have BK155 := n0_; have HB := n1_; have BK156 := n2_; have GW156 := n3_; have GE156 := n4_; have NB155_156 := n5_; have NB156_155 := n6_; clear n0_ n1_ n2_ n3_ n4_ n5_ n6_; clear hb hbox hg) | ((with_reducible refine gate_dst (N := 4) rfl ?_); refine box_event ?hg (N := 4) ?hd (cs := #[.int .u64 0, .int .u64 0]) (t := 58) ?hr ?_; (case hd => rfl); (case hg => rfl); (case hr => first | (go_simp; done) | (go_simp; rfl)); intro gb157 hg w6 hbox hb; have n0_ := Aside0.mk (blk_below (g := gb155) (o := .cells #[.int .u64 a0_0, .int .u64 a0_1] 58 (0, 0)) (by (with_reducible repeat (first | apply bN | apply bD | apply bA)); exact BK155.out) hb); have n1_ := Aside0.mk (blk_below (g := gb156) (o := .cells #[.int .u64 a1_0, .int .u64 a1_1] 58 (0, 0)) (by (with_reducible repeat (first | apply bN | apply bD | apply bA)); exact BK156.out) hb); have n2_ := Aside0.mk (below_step (by repeat (first | (with_reducible first | exact HB.out | apply lA | apply lN | apply lD | refine lS ?_ ‹_›) | exact HB.out)) hb); have n3_ := Aside0.mk (hbox); have n4_ := Aside0.mk ((by rw [hg]; exact (below_size (by repeat (first | (with_reducible first | exact HB.out | apply lA | apply lN | apply lD | refine lS ?_ ‹_›) | exact HB.out))) : w.heap.size ≤ gb157)); have n5_ := n4_; have n6_ := Aside0.mk ((by rw [hg]; exact Nat.ne_of_lt (blk_lt (g := gb155) (o := .cells #[.int .u64 a0_0, .int .u64 a0_1] 58 (0, 0)) (by (with_reducible repeat (first | apply bN | apply bD | apply bA)); exact BK155.out)) : gb155 ≠ gb157)); have n7_ := sy n6_; have n8_ := Aside0.mk ((by rw [hg]; exact Nat.ne_of_lt (blk_lt (g := gb156) (o := .cells #[.int .u64 a1_0, .int .u64 a1_1] 58 (0, 0)) (by (with_reducible repeat (first | apply bN | apply bD | apply bA)); exact BK156.out)) : gb156 ≠ gb157)); have n9_ := sy n8_; clear BK155; clear BK156; clear HB; have BK155 := n0_; have BK156 := n1_; have HB := n2_; have BK157 := n3_; have GW157 := n4_; have GE157 := n5_; have NB155_157 := n6_; have NB157_155 := n7_; have NB156_157 := n8_; have NB157_156 := n9_; clear n0_ n1_ n2_ n3_ n4_ n5_ n6_ n7_ n8_ n9_; clear hb hbox hg))
 (try simp only [Act.put, List.setIfInBounds_toArray, List.set_cons_zero, List.set_cons_succ])
 go_cut [5] (fun v5 wc => ∃ (kq : Nat) (x5_2 : Bool), v5 = .bool x5_2 ∧ Aside0 (span_unlike_1.j0 kq x5_2 a0_0 a0_1 a1_0 a1_1 = some (r1, r2)) ∧ Aside0 (kq ≤ k) ∧ Aside0 (wc.heap[gb155]? = some (.cells #[.int .u64 a0_0, .int .u64 a0_1] 58 (0, 0))) ∧ Aside0 (wc.heap[gb156]? = some (.cells #[.int .u64 a1_0, .int .u64 a1_1] 58 (0, 0))) ∧ Aside0 (wc.heap[gb157]? = some (.cells #[.int .u64 0, .int .u64 0] 58 (0, 0))) ∧ Aside0 (Below w.heap.size w wc))
 case first =>
  have H := HC3.out
  clear HC3; replace H := Option.bind_eq_some_iff.mp H; obtain ⟨t158, A70, H⟩ := H
  replace H : (if t158 = true then ((span_one.f a0_0 a0_1).bind fun t159 => (span_unlike_1.j0 k t159 a0_0 a0_1 a1_0 a1_1)) else (span_unlike_1.j0 k true a0_0 a0_1 a1_0 a1_1)) = some (r1, r2) := H
  have A7 := Aside0.mk A70; clear A70
  by_cases c8 : t158 = true
  ·
   subst c8
   have H1 : ((span_one.f a0_0 a0_1).bind fun t159 => (span_unlike_1.j0 k t159 a0_0 a0_1 a1_0 a1_1)) = some (r1, r2) := by rw [if_pos rfl] at H; exact H
   clear H; have H := H1; clear H1; replace H := Option.bind_eq_some_iff.mp H; obtain ⟨t159, A90, H⟩ := H
   replace H : (span_unlike_1.j0 k t159 a0_0 a0_1 a1_0 a1_1) = some (r1, r2) := H
   have A9 := Aside0.mk A90; clear A90
   have H' := Aside0.mk H
   clear H; have hnb10 := NB156_155.out; have hnc10 := NB155_156.out; have hnb11 := NB156_157.out; have hnc11 := NB157_156.out; have hcz12_0 : w6.cell? ⟨gb156, 0, none⟩ = some (.int .u64 a1_0) := (blk_cell BK156.out 0).trans rfl; have hcz12_1 : w6.cell? ⟨gb156, 1, none⟩ = some (.int .u64 a1_1) := (blk_cell BK156.out 1).trans rfl; have hfz12_0 := blk_frozen BK156.out 0; have hfz12_1 := blk_frozen BK156.out 1
   go_wp2_with (first | ((with_reducible refine gate_callee (f := 50) rfl ?_); refine goesL_ (some 7) rfl rfl Try.func50 (by kernel_rfl) rfl #[.agg #[.int .u64 a1_0, .int .u64 a1_1]] rfl (by (try simp only [List.map_toArray, List.map_cons, List.map_nil]); first | done | rfl | (simp only [List.length_drop, List.length_take]; rfl)) ?_; (with_reducible refine (span_one.calls a1_0 a1_1 true _ A7.out).mono ?_); rintro e w13 ⟨rfl, hb⟩; refine ⟨_, rfl, ?_⟩; have n0_ := Aside0.mk (blk_below (g := gb155) (o := .cells #[.int .u64 a0_0, .int .u64 a0_1] 58 (0, 0)) (by (with_reducible repeat (first | apply bN | apply bD | apply bA)); exact BK155.out) hb); have n1_ := Aside0.mk (blk_below (g := gb156) (o := .cells #[.int .u64 a1_0, .int .u64 a1_1] 58 (0, 0)) (by (with_reducible repeat (first | apply bN | apply bD | apply bA)); exact BK156.out) hb); have n2_ := Aside0.mk (blk_below (g := gb157) (o := .cells #[.int .u64 0, .int .u64 0] 58 (0, 0)) (by (with_reducible repeat (first | apply bN | apply bD | apply bA)); exact BK157.out) hb); have n3_ := Aside0.mk (below_step (by repeat (first | (with_reducible first | exact HB.out | apply lA | apply lN | apply lD | refine lS ?_ ‹_›) | exact HB.out)) hb); clear BK155; clear BK156; clear BK157; clear HB; have BK155 := n0_; have BK156 := n1_; have BK157 := n2_; have HB := n3_; clear n0_ n1_ n2_ n3_; (try clear hb); (try clear hb2); (try clear hk); (try clear hi); have hnb14 := NB155_157.out; have hnc14 := NB157_155.out; have hcz15_0 : w13.cell? ⟨gb155, 0, none⟩ = some (.int .u64 a0_0) := (blk_cell BK155.out 0).trans rfl; have hcz15_1 : w13.cell? ⟨gb155, 1, none⟩ = some (.int .u64 a0_1) := (blk_cell BK155.out 1).trans rfl; have hfz15_0 := blk_frozen BK155.out 0; have hfz15_1 := blk_frozen BK155.out 1) | (go_at_call 50; (with_reducible refine (span_one.calls a0_0 a0_1 t159 _ A9.out).mono ?_); rintro e w16 ⟨rfl, hb⟩; have n0_ := Aside0.mk (blk_below (g := gb155) (o := .cells #[.int .u64 a0_0, .int .u64 a0_1] 58 (0, 0)) (by (with_reducible repeat (first | apply bN | apply bD | apply bA)); exact BK155.out) hb); have n1_ := Aside0.mk (blk_below (g := gb156) (o := .cells #[.int .u64 a1_0, .int .u64 a1_1] 58 (0, 0)) (by (with_reducible repeat (first | apply bN | apply bD | apply bA)); exact BK156.out) hb); have n2_ := Aside0.mk (blk_below (g := gb157) (o := .cells #[.int .u64 0, .int .u64 0] 58 (0, 0)) (by (with_reducible repeat (first | apply bN | apply bD | apply bA)); exact BK157.out) hb); have n3_ := Aside0.mk (below_step (by repeat (first | (with_reducible first | exact HB.out | apply lA | apply lN | apply lD | refine lS ?_ ‹_›) | exact HB.out)) hb); clear BK155; clear BK156; clear BK157; clear HB; have BK155 := n0_; have BK156 := n1_; have BK157 := n2_; have HB := n3_; clear n0_ n1_ n2_ n3_; (try clear hb); (try clear hb2); (try clear hk); (try clear hi)))
   go_meet
   case rel => exact ⟨_, (t159), (by first | rfl | (simp; done) | (simp [*]; done)), H', ⟨by first | omega | exact Nat.le_refl _⟩, ⟨by (with_reducible repeat (first | apply bN | apply bD | apply bA)); exact BK155.out⟩, ⟨by (with_reducible repeat (first | apply bN | apply bD | apply bA)); exact BK156.out⟩, ⟨by (with_reducible repeat (first | apply bN | apply bD | apply bA)); exact BK157.out⟩, ⟨by repeat (first | (with_reducible first | exact HB.out | apply lA | apply lN | apply lD | refine lS ?_ ‹_›) | exact HB.out)⟩⟩
  ·
   replace c8 := Bool.eq_false_iff.mpr c8
   subst c8
   have H1 : (span_unlike_1.j0 k true a0_0 a0_1 a1_0 a1_1) = some (r1, r2) := by rw [if_neg (show ¬ (false = true) by decide)] at H; exact H
   clear H; have H := H1; clear H1
   have H' := Aside0.mk H
   clear H; have hnb17 := NB156_155.out; have hnc17 := NB155_156.out; have hnb18 := NB156_157.out; have hnc18 := NB157_156.out; have hcz19_0 : w6.cell? ⟨gb156, 0, none⟩ = some (.int .u64 a1_0) := (blk_cell BK156.out 0).trans rfl; have hcz19_1 : w6.cell? ⟨gb156, 1, none⟩ = some (.int .u64 a1_1) := (blk_cell BK156.out 1).trans rfl; have hfz19_0 := blk_frozen BK156.out 0; have hfz19_1 := blk_frozen BK156.out 1
   go_wp2_with (first | ((with_reducible refine gate_callee (f := 50) rfl ?_); refine goesL_ (some 7) rfl rfl Try.func50 (by kernel_rfl) rfl #[.agg #[.int .u64 a1_0, .int .u64 a1_1]] rfl (by (try simp only [List.map_toArray, List.map_cons, List.map_nil]); first | done | rfl | (simp only [List.length_drop, List.length_take]; rfl)) ?_; (with_reducible refine (span_one.calls a1_0 a1_1 false _ A7.out).mono ?_); rintro e w20 ⟨rfl, hb⟩; refine ⟨_, rfl, ?_⟩; have n0_ := Aside0.mk (blk_below (g := gb155) (o := .cells #[.int .u64 a0_0, .int .u64 a0_1] 58 (0, 0)) (by (with_reducible repeat (first | apply bN | apply bD | apply bA)); exact BK155.out) hb); have n1_ := Aside0.mk (blk_below (g := gb156) (o := .cells #[.int .u64 a1_0, .int .u64 a1_1] 58 (0, 0)) (by (with_reducible repeat (first | apply bN | apply bD | apply bA)); exact BK156.out) hb); have n2_ := Aside0.mk (blk_below (g := gb157) (o := .cells #[.int .u64 0, .int .u64 0] 58 (0, 0)) (by (with_reducible repeat (first | apply bN | apply bD | apply bA)); exact BK157.out) hb); have n3_ := Aside0.mk (below_step (by repeat (first | (with_reducible first | exact HB.out | apply lA | apply lN | apply lD | refine lS ?_ ‹_›) | exact HB.out)) hb); clear BK155; clear BK156; clear BK157; clear HB; have BK155 := n0_; have BK156 := n1_; have BK157 := n2_; have HB := n3_; clear n0_ n1_ n2_ n3_; (try clear hb); (try clear hb2); (try clear hk); (try clear hi)))
   go_meet
   case rel => exact ⟨_, (true), (by first | rfl | (simp; done) | (simp [*]; done)), H', ⟨by first | omega | exact Nat.le_refl _⟩, ⟨by (with_reducible repeat (first | apply bN | apply bD | apply bA)); exact BK155.out⟩, ⟨by (with_reducible repeat (first | apply bN | apply bD | apply bA)); exact BK156.out⟩, ⟨by (with_reducible repeat (first | apply bN | apply bD | apply bA)); exact BK157.out⟩, ⟨by repeat (first | (with_reducible first | exact HB.out | apply lA | apply lN | apply lD | refine lS ?_ ‹_›) | exact HB.out)⟩⟩
 case rest =>
  clear HC3
  try clear c1
  try clear p2
  try clear c5
  try clear c6
  try clear c8
  try clear c10
  try clear c11
  try clear c14
  try clear c17
  try clear c18
  try clear hcz12_0
  try clear hcz12_1
  try clear hcz15_0
  try clear hcz15_1
  try clear hcz19_0
  try clear hcz19_1
  try clear hfz12_0
  try clear hfz12_1
  try clear hfz15_0
  try clear hfz15_1
  try clear hfz19_0
  try clear hfz19_1
  obtain ⟨kq, x5_2, rfl, HA, HJ2, BK155, BK156, BK157, HB⟩ := hcut
  cases kq with
  | zero => exact absurd HA.out (by simp [span_unlike_1.j0])
  | succ kj2 =>
   have H := HA.out
   clear HA
   simp only [span_unlike_1.j0] at H
   by_cases c21 : x5_2 = true
   ·
    subst c21
    have H1 : (some (a0_0, a0_1)) = some (r1, r2) := by rw [if_pos rfl] at H; exact H
    clear H; have H := H1; clear H1; simp only [Option.some.injEq, Prod.mk.injEq] at H; obtain ⟨rfl, rfl⟩ := H; have hnb22 := NB155_156.out; have hnc22 := NB156_155.out; have hnb23 := NB155_157.out; have hnc23 := NB157_155.out; have hcz24_0 : wc.cell? ⟨gb155, 0, none⟩ = some (.int .u64 a0_0) := (blk_cell BK155.out 0).trans rfl; have hcz24_1 : wc.cell? ⟨gb155, 1, none⟩ = some (.int .u64 a0_1) := (blk_cell BK155.out 1).trans rfl; have hfz24_0 := blk_frozen BK155.out 0; have hfz24_1 := blk_frozen BK155.out 1; have hnb25 := NB157_156.out; have hnc25 := NB156_157.out; have hcz26_0 : wc.cell? ⟨gb157, 0, none⟩ = some (.int .u64 0) := (blk_cell BK157.out 0).trans rfl; have hcz26_1 : wc.cell? ⟨gb157, 1, none⟩ = some (.int .u64 0) := (blk_cell BK157.out 1).trans rfl; have hfz26_0 := blk_frozen BK157.out 0; have hfz26_1 := blk_frozen BK157.out 1
    go_wp2
    refine bodyPost_ret (results_cell_row rfl _ _ gb157 58 #[.int .u64 a0_0, .int .u64 a0_1] (0, 0) _ rfl (by (with_reducible repeat (first | apply bN | apply bD | apply bA)); refine blk_put (cs := #[.int .u64 a0_0, .int .u64 0]) ?_ 1 _ rfl; (with_reducible repeat (first | apply bN | apply bD | apply bA)); refine blk_put (cs := #[.int .u64 0, .int .u64 0]) ?_ 0 _ rfl; (with_reducible repeat (first | apply bN | apply bD | apply bA)); exact BK157.out) Try.underlying58 rfl (by kernel_rfl)) rfl ?_
    exact ⟨by first | rfl | (simp [errW_none, errW_some] <;> rfl) | (simp [*, errW_none, errW_some] <;> rfl), by repeat (first | (with_reducible first | exact HB.out | apply lA | apply lN | apply lD | refine lS ?_ ‹_›) | exact HB.out)⟩
   ·
    replace c21 := Bool.eq_false_iff.mpr c21
    subst c21
    have H1 : (if a0_0 = a1_0 then (some (IntKind.u64.wrap (a0_0 + 1), a0_1)) else (if a0_1 = a1_0 then (some (a0_0, IntKind.u64.wrap (a0_1 - 1))) else (some (a0_0, a0_1)))) = some (r1, r2) := by rw [if_neg (show ¬ (false = true) by decide)] at H; exact H
    clear H; have H := H1; clear H1
    by_cases c27 : a0_0 = a1_0
    ·
     rw [if_pos c27] at H
     have c27b0 : (a0_0 == a1_0) = true := beq_iff_eq.mpr c27; have c27b1 : (a0_0 != a1_0) = false := bne_eq_false_iff_eq.mpr c27; clear c27; simp only [Option.some.injEq, Prod.mk.injEq] at H; obtain ⟨rfl, rfl⟩ := H; have hnb28 := NB155_156.out; have hnc28 := NB156_155.out; have hnb29 := NB155_157.out; have hnc29 := NB157_155.out; have hcz30_0 : wc.cell? ⟨gb155, 0, none⟩ = some (.int .u64 a0_0) := (blk_cell BK155.out 0).trans rfl; have hcz30_1 : wc.cell? ⟨gb155, 1, none⟩ = some (.int .u64 a0_1) := (blk_cell BK155.out 1).trans rfl; have hfz30_0 := blk_frozen BK155.out 0; have hfz30_1 := blk_frozen BK155.out 1; have hnb31 := NB156_157.out; have hnc31 := NB157_156.out; have hcz32_0 : wc.cell? ⟨gb156, 0, none⟩ = some (.int .u64 a1_0) := (blk_cell BK156.out 0).trans rfl; have hcz32_1 : wc.cell? ⟨gb156, 1, none⟩ = some (.int .u64 a1_1) := (blk_cell BK156.out 1).trans rfl; have hfz32_0 := blk_frozen BK156.out 0; have hfz32_1 := blk_frozen BK156.out 1; have hcz33_0 : wc.cell? ⟨gb157, 0, none⟩ = some (.int .u64 0) := (blk_cell BK157.out 0).trans rfl; have hcz33_1 : wc.cell? ⟨gb157, 1, none⟩ = some (.int .u64 0) := (blk_cell BK157.out 1).trans rfl; have hfz33_0 := blk_frozen BK157.out 0; have hfz33_1 := blk_frozen BK157.out 1
     go_wp2
     refine bodyPost_ret (results_cell_row rfl _ _ gb157 58 #[.int .u64 (IntKind.u64.wrap (a0_0 + 1)), .int .u64 a0_1] (0, 0) _ rfl (by (with_reducible repeat (first | apply bN | apply bD | apply bA)); refine blk_put (cs := #[.int .u64 (IntKind.u64.wrap (a0_0 + 1)), .int .u64 0]) ?_ 1 _ rfl; (with_reducible repeat (first | apply bN | apply bD | apply bA)); refine blk_put (cs := #[.int .u64 0, .int .u64 0]) ?_ 0 _ rfl; (with_reducible repeat (first | apply bN | apply bD | apply bA)); refine blk_far ?_ NB157_155.out _; (with_reducible repeat (first | apply bN | apply bD | apply bA)); exact BK157.out) Try.underlying58 rfl (by kernel_rfl)) rfl ?_
     exact ⟨by first | rfl | (simp [errW_none, errW_some] <;> rfl) | (simp [*, errW_none, errW_some] <;> rfl), by repeat (first | (with_reducible first | exact HB.out | apply lA | apply lN | apply lD | refine lS ?_ ‹_›) | exact HB.out)⟩
    ·
     rw [if_neg c27] at H
     have c27b0 : (a0_0 == a1_0) = false := beq_eq_false_iff_ne.mpr c27; have c27b1 : (a0_0 != a1_0) = true := bne_iff_ne.mpr c27
     by_cases c34 : a0_1 = a1_0
     ·
      rw [if_pos c34] at H
      have c34b0 : (a0_1 == a1_0) = true := beq_iff_eq.mpr c34; have c34b1 : (a0_1 != a1_0) = false := bne_eq_false_iff_eq.mpr c34; clear c34; simp only [Option.some.injEq, Prod.mk.injEq] at H; obtain ⟨rfl, rfl⟩ := H; have hnb35 := NB155_156.out; have hnc35 := NB156_155.out; have hnb36 := NB155_157.out; have hnc36 := NB157_155.out; have hcz37_0 : wc.cell? ⟨gb155, 0, none⟩ = some (.int .u64 a0_0) := (blk_cell BK155.out 0).trans rfl; have hcz37_1 : wc.cell? ⟨gb155, 1, none⟩ = some (.int .u64 a0_1) := (blk_cell BK155.out 1).trans rfl; have hfz37_0 := blk_frozen BK155.out 0; have hfz37_1 := blk_frozen BK155.out 1; have hnb38 := NB156_157.out; have hnc38 := NB157_156.out; have hcz39_0 : wc.cell? ⟨gb156, 0, none⟩ = some (.int .u64 a1_0) := (blk_cell BK156.out 0).trans rfl; have hcz39_1 : wc.cell? ⟨gb156, 1, none⟩ = some (.int .u64 a1_1) := (blk_cell BK156.out 1).trans rfl; have hfz39_0 := blk_frozen BK156.out 0; have hfz39_1 := blk_frozen BK156.out 1; have hcz40_0 : wc.cell? ⟨gb157, 0, none⟩ = some (.int .u64 0) := (blk_cell BK157.out 0).trans rfl; have hcz40_1 : wc.cell? ⟨gb157, 1, none⟩ = some (.int .u64 0) := (blk_cell BK157.out 1).trans rfl; have hfz40_0 := blk_frozen BK157.out 0; have hfz40_1 := blk_frozen BK157.out 1
      go_wp2
      refine bodyPost_ret (results_cell_row rfl _ _ gb157 58 #[.int .u64 a0_0, .int .u64 (IntKind.u64.wrap (a0_1 - 1))] (0, 0) _ rfl (by (with_reducible repeat (first | apply bN | apply bD | apply bA)); refine blk_put (cs := #[.int .u64 a0_0, .int .u64 0]) ?_ 1 _ rfl; (with_reducible repeat (first | apply bN | apply bD | apply bA)); refine blk_put (cs := #[.int .u64 0, .int .u64 0]) ?_ 0 _ rfl; (with_reducible repeat (first | apply bN | apply bD | apply bA)); refine blk_far ?_ NB157_155.out _; (with_reducible repeat (first | apply bN | apply bD | apply bA)); exact BK157.out) Try.underlying58 rfl (by kernel_rfl)) rfl ?_
      exact ⟨by first | rfl | (simp [errW_none, errW_some] <;> rfl) | (simp [*, errW_none, errW_some] <;> rfl), by repeat (first | (with_reducible first | exact HB.out | apply lA | apply lN | apply lD | refine lS ?_ ‹_›) | exact HB.out)⟩
     ·
      rw [if_neg c34] at H
      have c34b0 : (a0_1 == a1_0) = false := beq_eq_false_iff_ne.mpr c34; have c34b1 : (a0_1 != a1_0) = true := bne_iff_ne.mpr c34; simp only [Option.some.injEq, Prod.mk.injEq] at H; obtain ⟨rfl, rfl⟩ := H; have hnb41 := NB155_156.out; have hnc41 := NB156_155.out; have hnb42 := NB155_157.out; have hnc42 := NB157_155.out; have hcz43_0 : wc.cell? ⟨gb155, 0, none⟩ = some (.int .u64 a0_0) := (blk_cell BK155.out 0).trans rfl; have hcz43_1 : wc.cell? ⟨gb155, 1, none⟩ = some (.int .u64 a0_1) := (blk_cell BK155.out 1).trans rfl; have hfz43_0 := blk_frozen BK155.out 0; have hfz43_1 := blk_frozen BK155.out 1; have hnb44 := NB156_157.out; have hnc44 := NB157_156.out; have hcz45_0 : wc.cell? ⟨gb156, 0, none⟩ = some (.int .u64 a1_0) := (blk_cell BK156.out 0).trans rfl; have hcz45_1 : wc.cell? ⟨gb156, 1, none⟩ = some (.int .u64 a1_1) := (blk_cell BK156.out 1).trans rfl; have hfz45_0 := blk_frozen BK156.out 0; have hfz45_1 := blk_frozen BK156.out 1; have hcz46_0 : wc.cell? ⟨gb157, 0, none⟩ = some (.int .u64 0) := (blk_cell BK157.out 0).trans rfl; have hcz46_1 : wc.cell? ⟨gb157, 1, none⟩ = some (.int .u64 0) := (blk_cell BK157.out 1).trans rfl; have hfz46_0 := blk_frozen BK157.out 0; have hfz46_1 := blk_frozen BK157.out 1
      go_wp2
      refine bodyPost_ret (results_cell_row rfl _ _ gb157 58 #[.int .u64 a0_0, .int .u64 a0_1] (0, 0) _ rfl (by (with_reducible repeat (first | apply bN | apply bD | apply bA)); refine blk_put (cs := #[.int .u64 a0_0, .int .u64 0]) ?_ 1 _ rfl; (with_reducible repeat (first | apply bN | apply bD | apply bA)); refine blk_put (cs := #[.int .u64 0, .int .u64 0]) ?_ 0 _ rfl; (with_reducible repeat (first | apply bN | apply bD | apply bA)); exact BK157.out) Try.underlying58 rfl (by kernel_rfl)) rfl ?_
      exact ⟨by first | rfl | (simp [errW_none, errW_some] <;> rfl) | (simp [*, errW_none, errW_some] <;> rfl), by repeat (first | (with_reducible first | exact HB.out | apply lA | apply lN | apply lD | refine lS ?_ ‹_›) | exact HB.out)⟩

end Go.Proofs.Ytladlljnpmpdpaa.PSpanNarrow
