-- Written by a program of this session (a variant of the print), for this claim. Lean checks it.
import Derived.Test.YtladlljnpmpdpaaPSpanNarrowx0
namespace Go.Proofs.Ytladlljnpmpdpaa.PSpanNarrow
open Go.RowKit Go.Proofs.YtladlljnpmpdpaaW.PrintWords Go.Proofs.YtladlljnpmpdpaaW.PrintLast Go.Proofs.YtladlljnpmpdpaaW.PrintMore
attribute [local go_sem] max2_int min2_int max_two min_two max_three min_three max_four min_four   -- for this text's walks alone
attribute [local go_sem high] Go.Proofs.Ytladlljnpmpdpaa.NotLaw.not_u64 Go.Proofs.Ytladlljnpmpdpaa.NotLaw.not_u32 Go.Proofs.Ytladlljnpmpdpaa.NotLaw.not_u16 Go.Proofs.Ytladlljnpmpdpaa.NotLaw.not_u8
set_option linter.unusedVariables false
set_option linter.unusedSimpArgs false

/-! ### span_Const: function 37 -/
def span_Const.f (a0 : Int) : Option (Int × Int) := some (a0, a0)
set_option maxHeartbeats 8000000 in
set_option maxRecDepth 100000 in
theorem span_Const.calls (a0 : Int) (r1 : Int) (r2 : Int) (w : World) (h : span_Const.f a0 = some (r1, r2)) :
  Calls Try.prog 37 #[.int .u64 a0] w fun e w' => e = .returned (.agg #[.int .u64 r1, .int .u64 r2]) ∧ Below w.heap.size w w' := by
 have hu58 := Try.underlying58
 have HB := Aside0.mk (Below.refl w.heap.size w)
 have H : (some (a0, a0)) = some (r1, r2) := h
 clear h; simp only [Option.some.injEq, Prod.mk.injEq] at H; obtain ⟨rfl, rfl⟩ := H
 go_enter Try.func37, Try.ntmps37
 go_wp2_with (first | ((with_reducible refine gate_dst (N := 2) rfl ?_); refine box_event ?hg (N := 2) ?hd (cs := #[.int .u64 0, .int .u64 0]) (t := 58) ?hr ?_; (case hd => rfl); (case hg => rfl); (case hr => first | (go_simp; done) | (go_simp; rfl)); intro gb101 hg w2 hbox hb; have n0_ := Aside0.mk (below_step (by repeat (first | (with_reducible first | exact HB.out | apply lA | apply lN | apply lD) | exact HB.out)) hb); have n1_ := Aside0.mk (hbox); have n2_ := Aside0.mk ((by rw [hg]; exact (below_size (by repeat (first | (with_reducible first | exact HB.out | apply lA | apply lN | apply lD) | exact HB.out))) : w.heap.size ≤ gb101)); have n3_ := n2_; clear HB; have HB := n0_; have BK101 := n1_; have GW101 := n2_; have GE101 := n3_; clear n0_ n1_ n2_ n3_; clear hb hbox hg; have hcz3_0 : w2.cell? ⟨gb101, 0, none⟩ = some (.int .u64 0) := (blk_cell BK101.out 0).trans rfl; have hcz3_1 : w2.cell? ⟨gb101, 1, none⟩ = some (.int .u64 0) := (blk_cell BK101.out 1).trans rfl; have hfz3_0 := blk_frozen BK101.out 0; have hfz3_1 := blk_frozen BK101.out 1))
 refine bodyPost_ret (results_cell_row rfl _ _ gb101 58 #[.int .u64 a0, .int .u64 a0] (0, 0) _ rfl (by (with_reducible repeat (first | apply bN | apply bD | apply bA)); refine blk_put (cs := #[.int .u64 a0, .int .u64 0]) ?_ 1 _ rfl; (with_reducible repeat (first | apply bN | apply bD | apply bA)); refine blk_put (cs := #[.int .u64 0, .int .u64 0]) ?_ 0 _ rfl; (with_reducible repeat (first | apply bN | apply bD | apply bA)); exact BK101.out) Try.underlying58 rfl (by kernel_rfl)) rfl ?_
 exact ⟨by first | rfl | (simp [errW_none, errW_some] <;> rfl) | (simp [*, errW_none, errW_some] <;> rfl), by repeat (first | (with_reducible first | exact HB.out | apply lA | apply lN | apply lD | refine lS ?_ ‹_›) | exact HB.out)⟩

/-! ### alu_do: function 54 -/
def alu_do.f (a0 : Int) (a1 : Int) (a2 : Int) (a3 : Int) : Option (Int × Int) := if a0 = 0 then (some (IntKind.u64.wrap (a1 + a2), 0)) else (if a0 = 16 then (some (IntKind.u64.wrap (a1 - a2), 0)) else (if a0 = 32 then (some (IntKind.u64.wrap (a1 * a2), 0)) else (if a0 = 48 then (if a2 = 0 then (some (0, 0)) else (some (IntKind.u64.wrap (Int.tdiv a1 a2), 0))) else (if a0 = 64 then (some (Go.bits .or .u64 a1 a2, 0)) else (if a0 = 80 then (some (Go.bits .and .u64 a1 a2, 0)) else (if a0 = 96 then (if 0 ≤ (Go.bits .and .u64 a2 a3) then (some (shl .u64 a1 (Go.bits .and .u64 a2 a3), 0)) else (none)) else (if a0 = 112 then (if 0 ≤ (Go.bits .and .u64 a2 a3) then (some (shr .u64 a1 (Go.bits .and .u64 a2 a3), 0)) else (none)) else (if a0 = 128 then (some (IntKind.u64.wrap (-a1), 0)) else (if a0 = 144 then (if a2 = 0 then (some (a1, 0)) else (some (Int.tmod a1 a2, 0))) else (if a0 = 160 then (some (Go.bits .xor .u64 a1 a2, 0)) else (if a0 = 176 then (some (a2, 0)) else (if a0 = 192 then (if a3 = 31 then (if 0 ≤ (Go.bits .and .u64 a2 a3) then (some ((shr .i32 (wrap32 ((a1) % 4294967296)) (Go.bits .and .u64 a2 a3)) % 4294967296, 0)) else (none)) else (if 0 ≤ (Go.bits .and .u64 a2 a3) then (some (IntKind.u64.wrap (shr .i64 (wrap64 (a1)) (Go.bits .and .u64 a2 a3)), 0)) else (none))) else (some (0, 2))))))))))))))
set_option maxHeartbeats 8000000 in
set_option maxRecDepth 100000 in
theorem alu_do.calls (a0 : Int) (a1 : Int) (a2 : Int) (a3 : Int) (r1 : Int) (r2 : Int) (w : World) (h : alu_do.f a0 a1 a2 a3 = some (r1, r2)) :
  Calls Try.prog 54 #[.int .i64 a0, .int .u64 a1, .int .u64 a2, .int .u64 a3] w fun e w' => e = .returned (.tuple #[.int .u64 r1, .int .i64 r2]) ∧ Drawn0 w w' := by
 have H : (if a0 = 0 then (some (IntKind.u64.wrap (a1 + a2), 0)) else (if a0 = 16 then (some (IntKind.u64.wrap (a1 - a2), 0)) else (if a0 = 32 then (some (IntKind.u64.wrap (a1 * a2), 0)) else (if a0 = 48 then (if a2 = 0 then (some (0, 0)) else (some (IntKind.u64.wrap (Int.tdiv a1 a2), 0))) else (if a0 = 64 then (some (Go.bits .or .u64 a1 a2, 0)) else (if a0 = 80 then (some (Go.bits .and .u64 a1 a2, 0)) else (if a0 = 96 then (if 0 ≤ (Go.bits .and .u64 a2 a3) then (some (shl .u64 a1 (Go.bits .and .u64 a2 a3), 0)) else (none)) else (if a0 = 112 then (if 0 ≤ (Go.bits .and .u64 a2 a3) then (some (shr .u64 a1 (Go.bits .and .u64 a2 a3), 0)) else (none)) else (if a0 = 128 then (some (IntKind.u64.wrap (-a1), 0)) else (if a0 = 144 then (if a2 = 0 then (some (a1, 0)) else (some (Int.tmod a1 a2, 0))) else (if a0 = 160 then (some (Go.bits .xor .u64 a1 a2, 0)) else (if a0 = 176 then (some (a2, 0)) else (if a0 = 192 then (if a3 = 31 then (if 0 ≤ (Go.bits .and .u64 a2 a3) then (some ((shr .i32 (wrap32 ((a1) % 4294967296)) (Go.bits .and .u64 a2 a3)) % 4294967296, 0)) else (none)) else (if 0 ≤ (Go.bits .and .u64 a2 a3) then (some (IntKind.u64.wrap (shr .i64 (wrap64 (a1)) (Go.bits .and .u64 a2 a3)), 0)) else (none))) else (some (0, 2))))))))))))))) = some (r1, r2) := h
 clear h
 by_cases c5 : a0 = 0
 ·
  rw [if_pos c5] at H
  have c5b0 : (a0 == 0) = true := beq_iff_eq.mpr c5; have c5b1 : (a0 != 0) = false := bne_eq_false_iff_eq.mpr c5; clear c5; simp only [Option.some.injEq, Prod.mk.injEq] at H; obtain ⟨rfl, rfl⟩ := H
  go_enter Try.func54, Try.ntmps54
  go_wp2
  go_ret2
  exact ⟨by first | rfl | (simp; done) | (simp [*]; done), by repeat (first | exact Drawn0.refl _ | apply Drawn0.step)⟩
 ·
  rw [if_neg c5] at H
  have c5b0 : (a0 == 0) = false := beq_eq_false_iff_ne.mpr c5; have c5b1 : (a0 != 0) = true := bne_iff_ne.mpr c5
  by_cases c6 : a0 = 16
  ·
   rw [if_pos c6] at H
   have c6b0 : (a0 == 16) = true := beq_iff_eq.mpr c6; have c6b1 : (a0 != 16) = false := bne_eq_false_iff_eq.mpr c6; clear c6; simp only [Option.some.injEq, Prod.mk.injEq] at H; obtain ⟨rfl, rfl⟩ := H
   go_enter Try.func54, Try.ntmps54
   go_wp2
   go_ret2
   exact ⟨by first | rfl | (simp; done) | (simp [*]; done), by repeat (first | exact Drawn0.refl _ | apply Drawn0.step)⟩
  ·
   rw [if_neg c6] at H
   have c6b0 : (a0 == 16) = false := beq_eq_false_iff_ne.mpr c6; have c6b1 : (a0 != 16) = true := bne_iff_ne.mpr c6
   by_cases c7 : a0 = 32
   ·
    rw [if_pos c7] at H
    have c7b0 : (a0 == 32) = true := beq_iff_eq.mpr c7; have c7b1 : (a0 != 32) = false := bne_eq_false_iff_eq.mpr c7; clear c7; simp only [Option.some.injEq, Prod.mk.injEq] at H; obtain ⟨rfl, rfl⟩ := H
    go_enter Try.func54, Try.ntmps54
    go_wp2
    go_ret2
    exact ⟨by first | rfl | (simp; done) | (simp [*]; done), by repeat (first | exact Drawn0.refl _ | apply Drawn0.step)⟩
   ·
    rw [if_neg c7] at H
    have c7b0 : (a0 == 32) = false := beq_eq_false_iff_ne.mpr c7; have c7b1 : (a0 != 32) = true := bne_iff_ne.mpr c7
    by_cases c8 : a0 = 48
    ·
     rw [if_pos c8] at H
     have c8b0 : (a0 == 48) = true := beq_iff_eq.mpr c8; have c8b1 : (a0 != 48) = false := bne_eq_false_iff_eq.mpr c8; clear c8
     by_cases c9 : a2 = 0
     ·
      rw [if_pos c9] at H
      have c9b0 : (a2 == 0) = true := beq_iff_eq.mpr c9; have c9b1 : (a2 != 0) = false := bne_eq_false_iff_eq.mpr c9; clear c9; simp only [Option.some.injEq, Prod.mk.injEq] at H; obtain ⟨rfl, rfl⟩ := H
      go_enter Try.func54, Try.ntmps54
      go_wp2
      go_ret2
      exact ⟨by first | rfl | (simp; done) | (simp [*]; done), by repeat (first | exact Drawn0.refl _ | apply Drawn0.step)⟩
     ·
      rw [if_neg c9] at H
      have c9b0 : (a2 == 0) = false := beq_eq_false_iff_ne.mpr c9; have c9b1 : (a2 != 0) = true := bne_iff_ne.mpr c9; simp only [Option.some.injEq, Prod.mk.injEq] at H; obtain ⟨rfl, rfl⟩ := H
      go_enter Try.func54, Try.ntmps54
      go_wp2
      go_ret2
      exact ⟨by first | rfl | (simp; done) | (simp [*]; done), by repeat (first | exact Drawn0.refl _ | apply Drawn0.step)⟩
    ·
     rw [if_neg c8] at H
     have c8b0 : (a0 == 48) = false := beq_eq_false_iff_ne.mpr c8; have c8b1 : (a0 != 48) = true := bne_iff_ne.mpr c8
     by_cases c10 : a0 = 64
     ·
      rw [if_pos c10] at H
      have c10b0 : (a0 == 64) = true := beq_iff_eq.mpr c10; have c10b1 : (a0 != 64) = false := bne_eq_false_iff_eq.mpr c10; clear c10; simp only [Option.some.injEq, Prod.mk.injEq] at H; obtain ⟨rfl, rfl⟩ := H
      go_enter Try.func54, Try.ntmps54
      go_wp2
      go_ret2
      exact ⟨by first | rfl | (simp; done) | (simp [*]; done), by repeat (first | exact Drawn0.refl _ | apply Drawn0.step)⟩
     ·
      rw [if_neg c10] at H
      have c10b0 : (a0 == 64) = false := beq_eq_false_iff_ne.mpr c10; have c10b1 : (a0 != 64) = true := bne_iff_ne.mpr c10
      by_cases c11 : a0 = 80
      ·
       rw [if_pos c11] at H
       have c11b0 : (a0 == 80) = true := beq_iff_eq.mpr c11; have c11b1 : (a0 != 80) = false := bne_eq_false_iff_eq.mpr c11; clear c11; simp only [Option.some.injEq, Prod.mk.injEq] at H; obtain ⟨rfl, rfl⟩ := H
       go_enter Try.func54, Try.ntmps54
       go_wp2
       go_ret2
       exact ⟨by first | rfl | (simp; done) | (simp [*]; done), by repeat (first | exact Drawn0.refl _ | apply Drawn0.step)⟩
      ·
       rw [if_neg c11] at H
       have c11b0 : (a0 == 80) = false := beq_eq_false_iff_ne.mpr c11; have c11b1 : (a0 != 80) = true := bne_iff_ne.mpr c11
       by_cases c12 : a0 = 96
       ·
        rw [if_pos c12] at H
        have c12b0 : (a0 == 96) = true := beq_iff_eq.mpr c12; have c12b1 : (a0 != 96) = false := bne_eq_false_iff_eq.mpr c12; clear c12
        by_cases c13 : 0 ≤ (Go.bits .and .u64 a2 a3)
        ·
         rw [if_pos c13] at H
         have c13b0 := eq_true c13
         have c13b1 : decide (0 ≤ (Go.bits .and .u64 a2 a3)) = true := decide_eq_true c13; clear c13
         obtain ⟨ji14, hji14⟩ : ∃ j_ : Int, (shl .u64 a1 (Go.bits .and .u64 a2 a3)) = j_ := ⟨_, rfl⟩
         replace H : (some (ji14, 0)) = some (r1, r2) := by first | (rw [hji14] at H; exact H) | (simp only [hji14] at H ⊢; exact H)
         have hji14_ : (IntKind.u64.wrap (a1 * 2 ^ min (Go.bits .and .u64 a2 a3).toNat 64)) = ji14 := hji14
         have hji14z : (Go.bits .and .u64 a2 a3) ≤ 64 → (IntKind.u64.wrap (a1 * 2 ^ (Go.bits .and .u64 a2 a3).toNat)) = ji14 := shl_small hji14
         simp only [Option.some.injEq, Prod.mk.injEq] at H; obtain ⟨rfl, rfl⟩ := H
         go_enter Try.func54, Try.ntmps54
         go_wp2
         go_ret2
         exact ⟨by first | rfl | (simp; done) | (simp only [← hji14] <;> (first | rfl | simp)) | (simp [*]; done), by repeat (first | exact Drawn0.refl _ | apply Drawn0.step)⟩
        ·
         rw [if_neg c13] at H
         exact absurd H (by simp)
       ·
        rw [if_neg c12] at H
        have c12b0 : (a0 == 96) = false := beq_eq_false_iff_ne.mpr c12; have c12b1 : (a0 != 96) = true := bne_iff_ne.mpr c12
        by_cases c15 : a0 = 112
        ·
         rw [if_pos c15] at H
         have c15b0 : (a0 == 112) = true := beq_iff_eq.mpr c15; have c15b1 : (a0 != 112) = false := bne_eq_false_iff_eq.mpr c15; clear c15
         by_cases c16 : 0 ≤ (Go.bits .and .u64 a2 a3)
         ·
          rw [if_pos c16] at H
          have c16b0 := eq_true c16
          have c16b1 : decide (0 ≤ (Go.bits .and .u64 a2 a3)) = true := decide_eq_true c16; clear c16
          obtain ⟨ji17, hji17⟩ : ∃ j_ : Int, (shr .u64 a1 (Go.bits .and .u64 a2 a3)) = j_ := ⟨_, rfl⟩
          replace H : (some (ji17, 0)) = some (r1, r2) := by first | (rw [hji17] at H; exact H) | (simp only [hji17] at H ⊢; exact H)
          have hji17_ : (a1 / 2 ^ min (Go.bits .and .u64 a2 a3).toNat 64) = ji17 := hji17
          have hji17z : (Go.bits .and .u64 a2 a3) ≤ 64 → (a1 / 2 ^ (Go.bits .and .u64 a2 a3).toNat) = ji17 := shr_small hji17
          simp only [Option.some.injEq, Prod.mk.injEq] at H; obtain ⟨rfl, rfl⟩ := H
          go_enter Try.func54, Try.ntmps54
          go_wp2
          go_ret2
          exact ⟨by first | rfl | (simp; done) | (simp only [← hji17] <;> (first | rfl | simp)) | (simp [*]; done), by repeat (first | exact Drawn0.refl _ | apply Drawn0.step)⟩
         ·
          rw [if_neg c16] at H
          exact absurd H (by simp)
        ·
         rw [if_neg c15] at H
         have c15b0 : (a0 == 112) = false := beq_eq_false_iff_ne.mpr c15; have c15b1 : (a0 != 112) = true := bne_iff_ne.mpr c15
         by_cases c18 : a0 = 128
         ·
          rw [if_pos c18] at H
          have c18b0 : (a0 == 128) = true := beq_iff_eq.mpr c18; have c18b1 : (a0 != 128) = false := bne_eq_false_iff_eq.mpr c18; clear c18; simp only [Option.some.injEq, Prod.mk.injEq] at H; obtain ⟨rfl, rfl⟩ := H
          go_enter Try.func54, Try.ntmps54
          go_wp2
          go_ret2
          exact ⟨by first | rfl | (simp; done) | (simp [*]; done), by repeat (first | exact Drawn0.refl _ | apply Drawn0.step)⟩
         ·
          rw [if_neg c18] at H
          have c18b0 : (a0 == 128) = false := beq_eq_false_iff_ne.mpr c18; have c18b1 : (a0 != 128) = true := bne_iff_ne.mpr c18
          by_cases c19 : a0 = 144
          ·
           rw [if_pos c19] at H
           have c19b0 : (a0 == 144) = true := beq_iff_eq.mpr c19; have c19b1 : (a0 != 144) = false := bne_eq_false_iff_eq.mpr c19; clear c19
           by_cases c20 : a2 = 0
           ·
            rw [if_pos c20] at H
            have c20b0 : (a2 == 0) = true := beq_iff_eq.mpr c20; have c20b1 : (a2 != 0) = false := bne_eq_false_iff_eq.mpr c20; clear c20; simp only [Option.some.injEq, Prod.mk.injEq] at H; obtain ⟨rfl, rfl⟩ := H
            go_enter Try.func54, Try.ntmps54
            go_wp2
            go_ret2
            exact ⟨by first | rfl | (simp; done) | (simp [*]; done), by repeat (first | exact Drawn0.refl _ | apply Drawn0.step)⟩
           ·
            rw [if_neg c20] at H
            have c20b0 : (a2 == 0) = false := beq_eq_false_iff_ne.mpr c20; have c20b1 : (a2 != 0) = true := bne_iff_ne.mpr c20; simp only [Option.some.injEq, Prod.mk.injEq] at H; obtain ⟨rfl, rfl⟩ := H
            go_enter Try.func54, Try.ntmps54
            go_wp2
            go_ret2
            exact ⟨by first | rfl | (simp; done) | (simp [*]; done), by repeat (first | exact Drawn0.refl _ | apply Drawn0.step)⟩
          ·
           rw [if_neg c19] at H
           have c19b0 : (a0 == 144) = false := beq_eq_false_iff_ne.mpr c19; have c19b1 : (a0 != 144) = true := bne_iff_ne.mpr c19
           by_cases c21 : a0 = 160
           ·
            rw [if_pos c21] at H
            have c21b0 : (a0 == 160) = true := beq_iff_eq.mpr c21; have c21b1 : (a0 != 160) = false := bne_eq_false_iff_eq.mpr c21; clear c21; simp only [Option.some.injEq, Prod.mk.injEq] at H; obtain ⟨rfl, rfl⟩ := H
            go_enter Try.func54, Try.ntmps54
            go_wp2
            go_ret2
            exact ⟨by first | rfl | (simp; done) | (simp [*]; done), by repeat (first | exact Drawn0.refl _ | apply Drawn0.step)⟩
           ·
            rw [if_neg c21] at H
            have c21b0 : (a0 == 160) = false := beq_eq_false_iff_ne.mpr c21; have c21b1 : (a0 != 160) = true := bne_iff_ne.mpr c21
            by_cases c22 : a0 = 176
            ·
             rw [if_pos c22] at H
             have c22b0 : (a0 == 176) = true := beq_iff_eq.mpr c22; have c22b1 : (a0 != 176) = false := bne_eq_false_iff_eq.mpr c22; clear c22; simp only [Option.some.injEq, Prod.mk.injEq] at H; obtain ⟨rfl, rfl⟩ := H
             go_enter Try.func54, Try.ntmps54
             go_wp2
             go_ret2
             exact ⟨by first | rfl | (simp; done) | (simp [*]; done), by repeat (first | exact Drawn0.refl _ | apply Drawn0.step)⟩
            ·
             rw [if_neg c22] at H
             have c22b0 : (a0 == 176) = false := beq_eq_false_iff_ne.mpr c22; have c22b1 : (a0 != 176) = true := bne_iff_ne.mpr c22
             by_cases c23 : a0 = 192
             ·
              rw [if_pos c23] at H
              have c23b0 : (a0 == 192) = true := beq_iff_eq.mpr c23; have c23b1 : (a0 != 192) = false := bne_eq_false_iff_eq.mpr c23; clear c23
              by_cases c24 : a3 = 31
              ·
               rw [if_pos c24] at H
               have c24b0 : (a3 == 31) = true := beq_iff_eq.mpr c24; have c24b1 : (a3 != 31) = false := bne_eq_false_iff_eq.mpr c24; clear c24
               by_cases c25 : 0 ≤ (Go.bits .and .u64 a2 a3)
               ·
                rw [if_pos c25] at H
                have c25b0 := eq_true c25
                have c25b1 : decide (0 ≤ (Go.bits .and .u64 a2 a3)) = true := decide_eq_true c25; clear c25
                obtain ⟨ji26, hji26⟩ : ∃ j_ : Int, (shr .i32 (wrap32 ((a1) % 4294967296)) (Go.bits .and .u64 a2 a3)) = j_ := ⟨_, rfl⟩
                replace H : (some ((ji26) % 4294967296, 0)) = some (r1, r2) := by first | (rw [hji26] at H; exact H) | (simp only [hji26] at H ⊢; exact H)
                have hji26_ : ((wrap32 ((a1) % 4294967296)) / 2 ^ min (Go.bits .and .u64 a2 a3).toNat 32) = ji26 := hji26
                have hji26z : (Go.bits .and .u64 a2 a3) ≤ 32 → ((wrap32 ((a1) % 4294967296)) / 2 ^ (Go.bits .and .u64 a2 a3).toNat) = ji26 := shr_small hji26
                simp only [Option.some.injEq, Prod.mk.injEq] at H; obtain ⟨rfl, rfl⟩ := H
                go_enter Try.func54, Try.ntmps54
                go_wp2
                go_ret2
                exact ⟨by first | rfl | (simp; done) | (simp only [← hji26] <;> (first | rfl | simp)) | (simp [*]; done), by repeat (first | exact Drawn0.refl _ | apply Drawn0.step)⟩
               ·
                rw [if_neg c25] at H
                exact absurd H (by simp)
              ·
               rw [if_neg c24] at H
               have c24b0 : (a3 == 31) = false := beq_eq_false_iff_ne.mpr c24; have c24b1 : (a3 != 31) = true := bne_iff_ne.mpr c24
               by_cases c27 : 0 ≤ (Go.bits .and .u64 a2 a3)
               ·
                rw [if_pos c27] at H
                have c27b0 := eq_true c27
                have c27b1 : decide (0 ≤ (Go.bits .and .u64 a2 a3)) = true := decide_eq_true c27; clear c27
                obtain ⟨ji28, hji28⟩ : ∃ j_ : Int, (shr .i64 (wrap64 (a1)) (Go.bits .and .u64 a2 a3)) = j_ := ⟨_, rfl⟩
                replace H : (some (IntKind.u64.wrap (ji28), 0)) = some (r1, r2) := by first | (rw [hji28] at H; exact H) | (simp only [hji28] at H ⊢; exact H)
                have hji28_ : ((wrap64 (a1)) / 2 ^ min (Go.bits .and .u64 a2 a3).toNat 64) = ji28 := hji28
                have hji28z : (Go.bits .and .u64 a2 a3) ≤ 64 → ((wrap64 (a1)) / 2 ^ (Go.bits .and .u64 a2 a3).toNat) = ji28 := shr_small hji28
                simp only [Option.some.injEq, Prod.mk.injEq] at H; obtain ⟨rfl, rfl⟩ := H
                go_enter Try.func54, Try.ntmps54
                go_wp2
                go_ret2
                exact ⟨by first | rfl | (simp; done) | (simp only [← hji28] <;> (first | rfl | simp)) | (simp [*]; done), by repeat (first | exact Drawn0.refl _ | apply Drawn0.step)⟩
               ·
                rw [if_neg c27] at H
                exact absurd H (by simp)
             ·
              rw [if_neg c23] at H
              have c23b0 : (a0 == 192) = false := beq_eq_false_iff_ne.mpr c23; have c23b1 : (a0 != 192) = true := bne_iff_ne.mpr c23; simp only [Option.some.injEq, Prod.mk.injEq] at H; obtain ⟨rfl, rfl⟩ := H
              go_enter Try.func54, Try.ntmps54
              go_wp2
              go_ret2
              exact ⟨by first | rfl | (simp; done) | (simp [*]; done), by repeat (first | exact Drawn0.refl _ | apply Drawn0.step)⟩

/-! ### alu_Do: function 42 -/
def alu_Do.f (a0 : Int) (a1 : Bool) (a2 : Int) (a3 : Int) : Option (Int × Int) := if a1 = true then ((alu_do.f a0 a2 a3 63).bind fun bt102 => (some (bt102.1, bt102.2))) else ((alu_do.f a0 ((a2) % 4294967296) ((a3) % 4294967296) 31).bind fun bt104 => (some ((bt104.1) % 4294967296, bt104.2)))
set_option maxHeartbeats 8000000 in
set_option maxRecDepth 100000 in
theorem alu_Do.calls (a0 : Int) (a1 : Bool) (a2 : Int) (a3 : Int) (r1 : Int) (r2 : Int) (w : World) (h : alu_Do.f a0 a1 a2 a3 = some (r1, r2)) :
  Calls Try.prog 42 #[.int .i64 a0, .bool a1, .int .u64 a2, .int .u64 a3] w fun e w' => e = .returned (.tuple #[.int .u64 r1, .int .i64 r2]) ∧ Drawn0 w w' := by
 have H : (if a1 = true then ((alu_do.f a0 a2 a3 63).bind fun bt102 => (some (bt102.1, bt102.2))) else ((alu_do.f a0 ((a2) % 4294967296) ((a3) % 4294967296) 31).bind fun bt104 => (some ((bt104.1) % 4294967296, bt104.2)))) = some (r1, r2) := h
 clear h
 by_cases c5 : a1 = true
 ·
  subst c5
  have H1 : ((alu_do.f a0 a2 a3 63).bind fun bt102 => (some (bt102.1, bt102.2))) = some (r1, r2) := by rw [if_pos rfl] at H; exact H
  clear H; have H := H1; clear H1; replace H := Option.bind_eq_some_iff.mp H; obtain ⟨⟨t102, t103⟩, A60, H⟩ := H
  replace H : (some (t102, t103)) = some (r1, r2) := H
  have A6 := Aside0.mk A60; clear A60; simp only [Option.some.injEq, Prod.mk.injEq] at H; obtain ⟨rfl, rfl⟩ := H
  go_enter Try.func42, Try.ntmps42
  go_wp2_with (first | ((with_reducible refine gate_callee (f := 54) rfl ?_); refine goesL_ (some 32) rfl rfl Try.func54 (by kernel_rfl) rfl #[.int .i64 a0, .int .u64 a2, .int .u64 a3, .int .u64 63] rfl (by (try simp only [List.map_toArray, List.map_cons, List.map_nil]); first | done | rfl | (simp only [List.length_drop, List.length_take]; rfl)) ?_; (with_reducible refine (alu_do.calls a0 a2 a3 63 t102 t103 _ A6.out).mono ?_); rintro e w' ⟨rfl, ⟨nd, rfl⟩⟩; refine ⟨_, rfl, ?_⟩))
  go_ret2
  exact ⟨by first | rfl | (simp; done) | (simp [*]; done), by repeat (first | exact Drawn0.refl _ | apply Drawn0.step)⟩
 ·
  replace c5 := Bool.eq_false_iff.mpr c5
  subst c5
  have H1 : ((alu_do.f a0 ((a2) % 4294967296) ((a3) % 4294967296) 31).bind fun bt104 => (some ((bt104.1) % 4294967296, bt104.2))) = some (r1, r2) := by rw [if_neg (show ¬ (false = true) by decide)] at H; exact H
  clear H; have H := H1; clear H1; replace H := Option.bind_eq_some_iff.mp H; obtain ⟨⟨t104, t105⟩, A70, H⟩ := H
  replace H : (some ((t104) % 4294967296, t105)) = some (r1, r2) := H
  have A7 := Aside0.mk A70; clear A70; simp only [Option.some.injEq, Prod.mk.injEq] at H; obtain ⟨rfl, rfl⟩ := H
  go_enter Try.func42, Try.ntmps42
  go_wp2_with (first | ((with_reducible refine gate_callee (f := 54) rfl ?_); refine goesL_ (some 22) rfl rfl Try.func54 (by kernel_rfl) rfl #[.int .i64 a0, .int .u64 ((a2) % 4294967296), .int .u64 ((a3) % 4294967296), .int .u64 31] rfl (by (try simp only [List.map_toArray, List.map_cons, List.map_nil]); first | done | rfl | (simp only [List.length_drop, List.length_take]; rfl)) ?_; (with_reducible refine (alu_do.calls a0 ((a2) % 4294967296) ((a3) % 4294967296) 31 t104 t105 _ A7.out).mono ?_); rintro e w' ⟨rfl, ⟨nd, rfl⟩⟩; refine ⟨_, rfl, ?_⟩))
  go_ret2
  exact ⟨by first | rfl | (simp; done) | (simp [*]; done), by repeat (first | exact Drawn0.refl _ | apply Drawn0.step)⟩

/-! ### span_Any: function 41 -/
def span_Any.f  : Option (Int × Int) := some (0, 18446744073709551615)
set_option maxHeartbeats 8000000 in
set_option maxRecDepth 100000 in
theorem span_Any.calls  (r1 : Int) (r2 : Int) (w : World) (h : span_Any.f  = some (r1, r2)) :
  Calls Try.prog 41 #[] w fun e w' => e = .returned (.agg #[.int .u64 r1, .int .u64 r2]) ∧ Below w.heap.size w w' := by
 have hu58 := Try.underlying58
 have HB := Aside0.mk (Below.refl w.heap.size w)
 have H : (some (0, 18446744073709551615)) = some (r1, r2) := h
 clear h; simp only [Option.some.injEq, Prod.mk.injEq] at H; obtain ⟨rfl, rfl⟩ := H
 go_enter Try.func41, Try.ntmps41
 go_wp2_with (first | ((with_reducible refine gate_dst (N := 0) rfl ?_); refine box_event ?hg (N := 0) ?hd (cs := #[.int .u64 0, .int .u64 0]) (t := 58) ?hr ?_; (case hd => rfl); (case hg => rfl); (case hr => first | (go_simp; done) | (go_simp; rfl)); intro gb106 hg w1 hbox hb; have n0_ := Aside0.mk (below_step (by repeat (first | (with_reducible first | exact HB.out | apply lA | apply lN | apply lD) | exact HB.out)) hb); have n1_ := Aside0.mk (hbox); have n2_ := Aside0.mk ((by rw [hg]; exact (below_size (by repeat (first | (with_reducible first | exact HB.out | apply lA | apply lN | apply lD) | exact HB.out))) : w.heap.size ≤ gb106)); have n3_ := n2_; clear HB; have HB := n0_; have BK106 := n1_; have GW106 := n2_; have GE106 := n3_; clear n0_ n1_ n2_ n3_; clear hb hbox hg; have hcz2_0 : w1.cell? ⟨gb106, 0, none⟩ = some (.int .u64 0) := (blk_cell BK106.out 0).trans rfl; have hcz2_1 : w1.cell? ⟨gb106, 1, none⟩ = some (.int .u64 0) := (blk_cell BK106.out 1).trans rfl; have hfz2_0 := blk_frozen BK106.out 0; have hfz2_1 := blk_frozen BK106.out 1))
 refine bodyPost_ret (results_cell_row rfl _ _ gb106 58 #[.int .u64 0, .int .u64 18446744073709551615] (0, 0) _ rfl (by (with_reducible repeat (first | apply bN | apply bD | apply bA)); refine blk_put (cs := #[.int .u64 0, .int .u64 0]) ?_ 1 _ rfl; (with_reducible repeat (first | apply bN | apply bD | apply bA)); refine blk_put (cs := #[.int .u64 0, .int .u64 0]) ?_ 0 _ rfl; (with_reducible repeat (first | apply bN | apply bD | apply bA)); exact BK106.out) Try.underlying58 rfl (by kernel_rfl)) rfl ?_
 exact ⟨by first | rfl | (simp [errW_none, errW_some] <;> rfl) | (simp [*, errW_none, errW_some] <;> rfl), by repeat (first | (with_reducible first | exact HB.out | apply lA | apply lN | apply lD | refine lS ?_ ‹_›) | exact HB.out)⟩

/-! ### span_tidy: function 48 -/
def span_tidy.f (a0_0 : Int) (a0_1 : Int) : Option (Int × Int) := if a0_0 > a0_1 then ((span_Any.f).bind fun bt109 => (some (bt109.1, bt109.2))) else (some (a0_0, a0_1))
set_option maxHeartbeats 8000000 in
set_option maxRecDepth 100000 in
theorem span_tidy.calls (a0_0 : Int) (a0_1 : Int) (r1 : Int) (r2 : Int) (w : World) (h : span_tidy.f a0_0 a0_1 = some (r1, r2)) :
  Calls Try.prog 48 #[.agg #[.int .u64 a0_0, .int .u64 a0_1]] w fun e w' => e = .returned (.agg #[.int .u64 r1, .int .u64 r2]) ∧ Below w.heap.size w w' := by
 have hu58 := Try.underlying58
 have HB := Aside0.mk (Below.refl w.heap.size w)
 have H : (if a0_0 > a0_1 then ((span_Any.f).bind fun bt109 => (some (bt109.1, bt109.2))) else (some (a0_0, a0_1))) = some (r1, r2) := h
 clear h
 by_cases c2 : a0_0 > a0_1
 ·
  rw [if_pos c2] at H
  have c2b0 : decide (a0_1 < a0_0) = true := decide_eq_true c2; clear c2; replace H := Option.bind_eq_some_iff.mp H; obtain ⟨⟨t109, t110⟩, A30, H⟩ := H
  replace H : (some (t109, t110)) = some (r1, r2) := H
  have A3 := Aside0.mk A30; clear A30; simp only [Option.some.injEq, Prod.mk.injEq] at H; obtain ⟨rfl, rfl⟩ := H
  go_enter Try.func48, Try.ntmps48
  go_wp2_with (first | ((with_reducible refine gate_dst (N := 1) rfl ?_); refine box_event ?hg (N := 1) ?hd (cs := #[.int .u64 a0_0, .int .u64 a0_1]) (t := 58) ?hr ?_; (case hd => rfl); (case hg => rfl); (case hr => first | (go_simp; done) | (go_simp; rfl)); intro gb107 hg w4 hbox hb; have n0_ := Aside0.mk (below_step (by repeat (first | (with_reducible first | exact HB.out | apply lA | apply lN | apply lD) | exact HB.out)) hb); have n1_ := Aside0.mk (hbox); have n2_ := Aside0.mk ((by rw [hg]; exact (below_size (by repeat (first | (with_reducible first | exact HB.out | apply lA | apply lN | apply lD) | exact HB.out))) : w.heap.size ≤ gb107)); have n3_ := n2_; clear HB; have HB := n0_; have BK107 := n1_; have GW107 := n2_; have GE107 := n3_; clear n0_ n1_ n2_ n3_; clear hb hbox hg) | ((with_reducible refine gate_dst (N := 2) rfl ?_); refine box_event ?hg (N := 2) ?hd (cs := #[.int .u64 0, .int .u64 0]) (t := 58) ?hr ?_; (case hd => rfl); (case hg => rfl); (case hr => first | (go_simp; done) | (go_simp; rfl)); intro gb108 hg w5 hbox hb; have n0_ := Aside0.mk (blk_below (g := gb107) (o := .cells #[.int .u64 a0_0, .int .u64 a0_1] 58 (0, 0)) (by (with_reducible repeat (first | apply bN | apply bD | apply bA)); exact BK107.out) hb); have n1_ := Aside0.mk (below_step (by repeat (first | (with_reducible first | exact HB.out | apply lA | apply lN | apply lD | refine lS ?_ ‹_›) | exact HB.out)) hb); have n2_ := Aside0.mk (hbox); have n3_ := Aside0.mk ((by rw [hg]; exact (below_size (by repeat (first | (with_reducible first | exact HB.out | apply lA | apply lN | apply lD | refine lS ?_ ‹_›) | exact HB.out))) : w.heap.size ≤ gb108)); have n4_ := n3_; have n5_ := Aside0.mk ((by rw [hg]; exact Nat.ne_of_lt (blk_lt (g := gb107) (o := .cells #[.int .u64 a0_0, .int .u64 a0_1] 58 (0, 0)) (by (with_reducible repeat (first | apply bN | apply bD | apply bA)); exact BK107.out)) : gb107 ≠ gb108)); have n6_ := sy n5_; clear BK107; clear HB; have BK107 := n0_; have HB := n1_; have BK108 := n2_; have GW108 := n3_; have GE108 := n4_; have NB107_108 := n5_; have NB108_107 := n6_; clear n0_ n1_ n2_ n3_ n4_ n5_ n6_; clear hb hbox hg; have hnb6 := NB107_108.out; have hnc6 := NB108_107.out; have hcz7_0 : w5.cell? ⟨gb107, 0, none⟩ = some (.int .u64 a0_0) := (blk_cell BK107.out 0).trans rfl; have hcz7_1 : w5.cell? ⟨gb107, 1, none⟩ = some (.int .u64 a0_1) := (blk_cell BK107.out 1).trans rfl; have hfz7_0 := blk_frozen BK107.out 0; have hfz7_1 := blk_frozen BK107.out 1) | ((with_reducible refine gate_callee (f := 41) rfl ?_); refine goesL_ (some 8) rfl rfl Try.func41 (by kernel_rfl) rfl #[] rfl (by (try simp only [List.map_toArray, List.map_cons, List.map_nil]); first | done | rfl | (simp only [List.length_drop, List.length_take]; rfl)) ?_; (with_reducible refine (span_Any.calls  t109 t110 _ A3.out).mono ?_); rintro e w8 ⟨rfl, hb⟩; refine ⟨_, rfl, ?_⟩; have n0_ := Aside0.mk (blk_below (g := gb107) (o := .cells #[.int .u64 a0_0, .int .u64 a0_1] 58 (0, 0)) (by (with_reducible repeat (first | apply bN | apply bD | apply bA)); exact BK107.out) hb); have n1_ := Aside0.mk (blk_below (g := gb108) (o := .cells #[.int .u64 0, .int .u64 0] 58 (0, 0)) (by (with_reducible repeat (first | apply bN | apply bD | apply bA)); exact BK108.out) hb); have n2_ := Aside0.mk (below_step (by repeat (first | (with_reducible first | exact HB.out | apply lA | apply lN | apply lD | refine lS ?_ ‹_›) | exact HB.out)) hb); clear BK107; clear BK108; clear HB; have BK107 := n0_; have BK108 := n1_; have HB := n2_; clear n0_ n1_ n2_; (try clear hb); (try clear hb2); (try clear hk); (try clear hi); have hcz9_0 : w8.cell? ⟨gb108, 0, none⟩ = some (.int .u64 0) := (blk_cell BK108.out 0).trans rfl; have hcz9_1 : w8.cell? ⟨gb108, 1, none⟩ = some (.int .u64 0) := (blk_cell BK108.out 1).trans rfl; have hfz9_0 := blk_frozen BK108.out 0; have hfz9_1 := blk_frozen BK108.out 1))
  refine bodyPost_ret (results_cell_row rfl _ _ gb108 58 #[.int .u64 t109, .int .u64 t110] (0, 0) _ rfl (by (with_reducible repeat (first | apply bN | apply bD | apply bA)); refine blk_put (cs := #[.int .u64 t109, .int .u64 0]) ?_ 1 _ rfl; (with_reducible repeat (first | apply bN | apply bD | apply bA)); refine blk_put (cs := #[.int .u64 0, .int .u64 0]) ?_ 0 _ rfl; (with_reducible repeat (first | apply bN | apply bD | apply bA)); exact BK108.out) Try.underlying58 rfl (by kernel_rfl)) rfl ?_
  exact ⟨by first | rfl | (simp [errW_none, errW_some] <;> rfl) | (simp [*, errW_none, errW_some] <;> rfl), by repeat (first | (with_reducible first | exact HB.out | apply lA | apply lN | apply lD | refine lS ?_ ‹_›) | exact HB.out)⟩
 ·
  rw [if_neg c2] at H
  have c2b0 : decide (a0_1 < a0_0) = false := decide_eq_false c2; clear c2; simp only [Option.some.injEq, Prod.mk.injEq] at H; obtain ⟨rfl, rfl⟩ := H
  go_enter Try.func48, Try.ntmps48
  go_wp2_with (first | ((with_reducible refine gate_dst (N := 1) rfl ?_); refine box_event ?hg (N := 1) ?hd (cs := #[.int .u64 a0_0, .int .u64 a0_1]) (t := 58) ?hr ?_; (case hd => rfl); (case hg => rfl); (case hr => first | (go_simp; done) | (go_simp; rfl)); intro gb107 hg w10 hbox hb; have n0_ := Aside0.mk (below_step (by repeat (first | (with_reducible first | exact HB.out | apply lA | apply lN | apply lD) | exact HB.out)) hb); have n1_ := Aside0.mk (hbox); have n2_ := Aside0.mk ((by rw [hg]; exact (below_size (by repeat (first | (with_reducible first | exact HB.out | apply lA | apply lN | apply lD) | exact HB.out))) : w.heap.size ≤ gb107)); have n3_ := n2_; clear HB; have HB := n0_; have BK107 := n1_; have GW107 := n2_; have GE107 := n3_; clear n0_ n1_ n2_ n3_; clear hb hbox hg) | ((with_reducible refine gate_dst (N := 2) rfl ?_); refine box_event ?hg (N := 2) ?hd (cs := #[.int .u64 0, .int .u64 0]) (t := 58) ?hr ?_; (case hd => rfl); (case hg => rfl); (case hr => first | (go_simp; done) | (go_simp; rfl)); intro gb108 hg w11 hbox hb; have n0_ := Aside0.mk (blk_below (g := gb107) (o := .cells #[.int .u64 a0_0, .int .u64 a0_1] 58 (0, 0)) (by (with_reducible repeat (first | apply bN | apply bD | apply bA)); exact BK107.out) hb); have n1_ := Aside0.mk (below_step (by repeat (first | (with_reducible first | exact HB.out | apply lA | apply lN | apply lD | refine lS ?_ ‹_›) | exact HB.out)) hb); have n2_ := Aside0.mk (hbox); have n3_ := Aside0.mk ((by rw [hg]; exact (below_size (by repeat (first | (with_reducible first | exact HB.out | apply lA | apply lN | apply lD | refine lS ?_ ‹_›) | exact HB.out))) : w.heap.size ≤ gb108)); have n4_ := n3_; have n5_ := Aside0.mk ((by rw [hg]; exact Nat.ne_of_lt (blk_lt (g := gb107) (o := .cells #[.int .u64 a0_0, .int .u64 a0_1] 58 (0, 0)) (by (with_reducible repeat (first | apply bN | apply bD | apply bA)); exact BK107.out)) : gb107 ≠ gb108)); have n6_ := sy n5_; clear BK107; clear HB; have BK107 := n0_; have HB := n1_; have BK108 := n2_; have GW108 := n3_; have GE108 := n4_; have NB107_108 := n5_; have NB108_107 := n6_; clear n0_ n1_ n2_ n3_ n4_ n5_ n6_; clear hb hbox hg; have hnb12 := NB107_108.out; have hnc12 := NB108_107.out; have hcz13_0 : w11.cell? ⟨gb107, 0, none⟩ = some (.int .u64 a0_0) := (blk_cell BK107.out 0).trans rfl; have hcz13_1 : w11.cell? ⟨gb107, 1, none⟩ = some (.int .u64 a0_1) := (blk_cell BK107.out 1).trans rfl; have hfz13_0 := blk_frozen BK107.out 0; have hfz13_1 := blk_frozen BK107.out 1; have hcz14_0 : w11.cell? ⟨gb108, 0, none⟩ = some (.int .u64 0) := (blk_cell BK108.out 0).trans rfl; have hcz14_1 : w11.cell? ⟨gb108, 1, none⟩ = some (.int .u64 0) := (blk_cell BK108.out 1).trans rfl; have hfz14_0 := blk_frozen BK108.out 0; have hfz14_1 := blk_frozen BK108.out 1))
  refine bodyPost_ret (results_cell_row rfl _ _ gb108 58 #[.int .u64 a0_0, .int .u64 a0_1] (0, 0) _ rfl (by (with_reducible repeat (first | apply bN | apply bD | apply bA)); refine blk_put (cs := #[.int .u64 a0_0, .int .u64 0]) ?_ 1 _ rfl; (with_reducible repeat (first | apply bN | apply bD | apply bA)); refine blk_put (cs := #[.int .u64 0, .int .u64 0]) ?_ 0 _ rfl; (with_reducible repeat (first | apply bN | apply bD | apply bA)); exact BK108.out) Try.underlying58 rfl (by kernel_rfl)) rfl ?_
  exact ⟨by first | rfl | (simp [errW_none, errW_some] <;> rfl) | (simp [*, errW_none, errW_some] <;> rfl), by repeat (first | (with_reducible first | exact HB.out | apply lA | apply lN | apply lD | refine lS ?_ ‹_›) | exact HB.out)⟩

/-! ### span_one: function 50 -/
def span_one.f (a0_0 : Int) (a0_1 : Int) : Option (Bool) := some (a0_0 == a0_1)
set_option maxHeartbeats 8000000 in
set_option maxRecDepth 100000 in
theorem span_one.calls (a0_0 : Int) (a0_1 : Int) (r : Bool) (w : World) (h : span_one.f a0_0 a0_1 = some r) :
  Calls Try.prog 50 #[.agg #[.int .u64 a0_0, .int .u64 a0_1]] w fun e w' => e = .returned (.bool r) ∧ Below w.heap.size w w' := by
 have hu58 := Try.underlying58
 have HB := Aside0.mk (Below.refl w.heap.size w)
 have H : (some (a0_0 == a0_1)) = some r := h
 clear h
 obtain rfl := Option.some.inj H
 go_enter Try.func50, Try.ntmps50
 go_wp2_with (first | ((with_reducible refine gate_dst (N := 1) rfl ?_); refine box_event ?hg (N := 1) ?hd (cs := #[.int .u64 a0_0, .int .u64 a0_1]) (t := 58) ?hr ?_; (case hd => rfl); (case hg => rfl); (case hr => first | (go_simp; done) | (go_simp; rfl)); intro gb111 hg w2 hbox hb; have n0_ := Aside0.mk (below_step (by repeat (first | (with_reducible first | exact HB.out | apply lA | apply lN | apply lD) | exact HB.out)) hb); have n1_ := Aside0.mk (hbox); have n2_ := Aside0.mk ((by rw [hg]; exact (below_size (by repeat (first | (with_reducible first | exact HB.out | apply lA | apply lN | apply lD) | exact HB.out))) : w.heap.size ≤ gb111)); have n3_ := n2_; clear HB; have HB := n0_; have BK111 := n1_; have GW111 := n2_; have GE111 := n3_; clear n0_ n1_ n2_ n3_; clear hb hbox hg; have hcz3_0 : w2.cell? ⟨gb111, 0, none⟩ = some (.int .u64 a0_0) := (blk_cell BK111.out 0).trans rfl; have hcz3_1 : w2.cell? ⟨gb111, 1, none⟩ = some (.int .u64 a0_1) := (blk_cell BK111.out 1).trans rfl; have hfz3_0 := blk_frozen BK111.out 0; have hfz3_1 := blk_frozen BK111.out 1))
 go_ret
 exact ⟨by first | rfl | (simp [errW_none, errW_some] <;> rfl) | (simp [*, errW_none, errW_some] <;> rfl), by repeat (first | (with_reducible first | exact HB.out | apply lA | apply lN | apply lD | refine lS ?_ ‹_›) | exact HB.out)⟩

/-! ### span_cut: function 49 -/
def span_cut.f (a0_0 : Int) (a0_1 : Int) : Option (Int × Int) := if (a0_1 / 4294967296) = 0 then (some (a0_0, a0_1)) else ((span_one.f a0_0 a0_1).bind fun t114 => (if t114 = true then ((span_Const.f ((a0_0) % 4294967296)).bind fun bt115 => (some (bt115.1, bt115.2))) else (some (0, 4294967295))))
set_option maxHeartbeats 8000000 in
set_option maxRecDepth 100000 in
theorem span_cut.calls (a0_0 : Int) (a0_1 : Int) (r1 : Int) (r2 : Int) (w : World) (h : span_cut.f a0_0 a0_1 = some (r1, r2)) :
  Calls Try.prog 49 #[.agg #[.int .u64 a0_0, .int .u64 a0_1]] w fun e w' => e = .returned (.agg #[.int .u64 r1, .int .u64 r2]) ∧ Below w.heap.size w w' := by
 have hu58 := Try.underlying58
 have HB := Aside0.mk (Below.refl w.heap.size w)
 have H : (if (a0_1 / 4294967296) = 0 then (some (a0_0, a0_1)) else ((span_one.f a0_0 a0_1).bind fun t114 => (if t114 = true then ((span_Const.f ((a0_0) % 4294967296)).bind fun bt115 => (some (bt115.1, bt115.2))) else (some (0, 4294967295))))) = some (r1, r2) := h
 clear h
 by_cases c2 : (a0_1 / 4294967296) = 0
 ·
  rw [if_pos c2] at H
  have c2b0 : ((a0_1 / 4294967296) == 0) = true := beq_iff_eq.mpr c2; have c2b1 : ((a0_1 / 4294967296) != 0) = false := bne_eq_false_iff_eq.mpr c2; clear c2; simp only [Option.some.injEq, Prod.mk.injEq] at H; obtain ⟨rfl, rfl⟩ := H
  go_enter Try.func49, Try.ntmps49
  go_wp2_with (first | ((with_reducible refine gate_dst (N := 1) rfl ?_); refine box_event ?hg (N := 1) ?hd (cs := #[.int .u64 a0_0, .int .u64 a0_1]) (t := 58) ?hr ?_; (case hd => rfl); (case hg => rfl); (case hr => first | (go_simp; done) | (go_simp; rfl)); intro gb112 hg w3 hbox hb; have n0_ := Aside0.mk (below_step (by repeat (first | (with_reducible first | exact HB.out | apply lA | apply lN | apply lD) | exact HB.out)) hb); have n1_ := Aside0.mk (hbox); have n2_ := Aside0.mk ((by rw [hg]; exact (below_size (by repeat (first | (with_reducible first | exact HB.out | apply lA | apply lN | apply lD) | exact HB.out))) : w.heap.size ≤ gb112)); have n3_ := n2_; clear HB; have HB := n0_; have BK112 := n1_; have GW112 := n2_; have GE112 := n3_; clear n0_ n1_ n2_ n3_; clear hb hbox hg) | ((with_reducible refine gate_dst (N := 2) rfl ?_); refine box_event ?hg (N := 2) ?hd (cs := #[.int .u64 0, .int .u64 0]) (t := 58) ?hr ?_; (case hd => rfl); (case hg => rfl); (case hr => first | (go_simp; done) | (go_simp; rfl)); intro gb113 hg w4 hbox hb; have n0_ := Aside0.mk (blk_below (g := gb112) (o := .cells #[.int .u64 a0_0, .int .u64 a0_1] 58 (0, 0)) (by (with_reducible repeat (first | apply bN | apply bD | apply bA)); exact BK112.out) hb); have n1_ := Aside0.mk (below_step (by repeat (first | (with_reducible first | exact HB.out | apply lA | apply lN | apply lD | refine lS ?_ ‹_›) | exact HB.out)) hb); have n2_ := Aside0.mk (hbox); have n3_ := Aside0.mk ((by rw [hg]; exact (below_size (by repeat (first | (with_reducible first | exact HB.out | apply lA | apply lN | apply lD | refine lS ?_ ‹_›) | exact HB.out))) : w.heap.size ≤ gb113)); have n4_ := n3_; have n5_ := Aside0.mk ((by rw [hg]; exact Nat.ne_of_lt (blk_lt (g := gb112) (o := .cells #[.int .u64 a0_0, .int .u64 a0_1] 58 (0, 0)) (by (with_reducible repeat (first | apply bN | apply bD | apply bA)); exact BK112.out)) : gb112 ≠ gb113)); have n6_ := sy n5_; clear BK112; clear HB; have BK112 := n0_; have HB := n1_; have BK113 := n2_; have GW113 := n3_; have GE113 := n4_; have NB112_113 := n5_; have NB113_112 := n6_; clear n0_ n1_ n2_ n3_ n4_ n5_ n6_; clear hb hbox hg; have hnb5 := NB112_113.out; have hnc5 := NB113_112.out; have hcz6_0 : w4.cell? ⟨gb112, 0, none⟩ = some (.int .u64 a0_0) := (blk_cell BK112.out 0).trans rfl; have hcz6_1 : w4.cell? ⟨gb112, 1, none⟩ = some (.int .u64 a0_1) := (blk_cell BK112.out 1).trans rfl; have hfz6_0 := blk_frozen BK112.out 0; have hfz6_1 := blk_frozen BK112.out 1; have hcz7_0 : w4.cell? ⟨gb113, 0, none⟩ = some (.int .u64 0) := (blk_cell BK113.out 0).trans rfl; have hcz7_1 : w4.cell? ⟨gb113, 1, none⟩ = some (.int .u64 0) := (blk_cell BK113.out 1).trans rfl; have hfz7_0 := blk_frozen BK113.out 0; have hfz7_1 := blk_frozen BK113.out 1))
  refine bodyPost_ret (results_cell_row rfl _ _ gb113 58 #[.int .u64 a0_0, .int .u64 a0_1] (0, 0) _ rfl (by (with_reducible repeat (first | apply bN | apply bD | apply bA)); refine blk_put (cs := #[.int .u64 a0_0, .int .u64 0]) ?_ 1 _ rfl; (with_reducible repeat (first | apply bN | apply bD | apply bA)); refine blk_put (cs := #[.int .u64 0, .int .u64 0]) ?_ 0 _ rfl; (with_reducible repeat (first | apply bN | apply bD | apply bA)); exact BK113.out) Try.underlying58 rfl (by kernel_rfl)) rfl ?_
  exact ⟨by first | rfl | (simp [errW_none, errW_some] <;> rfl) | (simp [*, errW_none, errW_some] <;> rfl), by repeat (first | (with_reducible first | exact HB.out | apply lA | apply lN | apply lD | refine lS ?_ ‹_›) | exact HB.out)⟩
 ·
  rw [if_neg c2] at H
  have c2b0 : ((a0_1 / 4294967296) == 0) = false := beq_eq_false_iff_ne.mpr c2; have c2b1 : ((a0_1 / 4294967296) != 0) = true := bne_iff_ne.mpr c2; replace H := Option.bind_eq_some_iff.mp H; obtain ⟨t114, A80, H⟩ := H
  replace H : (if t114 = true then ((span_Const.f ((a0_0) % 4294967296)).bind fun bt115 => (some (bt115.1, bt115.2))) else (some (0, 4294967295))) = some (r1, r2) := H
  have A8 := Aside0.mk A80; clear A80
  by_cases c9 : t114 = true
  ·
   subst c9
   have H1 : ((span_Const.f ((a0_0) % 4294967296)).bind fun bt115 => (some (bt115.1, bt115.2))) = some (r1, r2) := by rw [if_pos rfl] at H; exact H
   clear H; have H := H1; clear H1; replace H := Option.bind_eq_some_iff.mp H; obtain ⟨⟨t115, t116⟩, A100, H⟩ := H
   replace H : (some (t115, t116)) = some (r1, r2) := H
   have A10 := Aside0.mk A100; clear A100; simp only [Option.some.injEq, Prod.mk.injEq] at H; obtain ⟨rfl, rfl⟩ := H
   go_enter Try.func49, Try.ntmps49
   go_wp2_with (first | ((with_reducible refine gate_dst (N := 1) rfl ?_); refine box_event ?hg (N := 1) ?hd (cs := #[.int .u64 a0_0, .int .u64 a0_1]) (t := 58) ?hr ?_; (case hd => rfl); (case hg => rfl); (case hr => first | (go_simp; done) | (go_simp; rfl)); intro gb112 hg w11 hbox hb; have n0_ := Aside0.mk (below_step (by repeat (first | (with_reducible first | exact HB.out | apply lA | apply lN | apply lD) | exact HB.out)) hb); have n1_ := Aside0.mk (hbox); have n2_ := Aside0.mk ((by rw [hg]; exact (below_size (by repeat (first | (with_reducible first | exact HB.out | apply lA | apply lN | apply lD) | exact HB.out))) : w.heap.size ≤ gb112)); have n3_ := n2_; clear HB; have HB := n0_; have BK112 := n1_; have GW112 := n2_; have GE112 := n3_; clear n0_ n1_ n2_ n3_; clear hb hbox hg) | ((with_reducible refine gate_dst (N := 2) rfl ?_); refine box_event ?hg (N := 2) ?hd (cs := #[.int .u64 0, .int .u64 0]) (t := 58) ?hr ?_; (case hd => rfl); (case hg => rfl); (case hr => first | (go_simp; done) | (go_simp; rfl)); intro gb113 hg w12 hbox hb; have n0_ := Aside0.mk (blk_below (g := gb112) (o := .cells #[.int .u64 a0_0, .int .u64 a0_1] 58 (0, 0)) (by (with_reducible repeat (first | apply bN | apply bD | apply bA)); exact BK112.out) hb); have n1_ := Aside0.mk (below_step (by repeat (first | (with_reducible first | exact HB.out | apply lA | apply lN | apply lD | refine lS ?_ ‹_›) | exact HB.out)) hb); have n2_ := Aside0.mk (hbox); have n3_ := Aside0.mk ((by rw [hg]; exact (below_size (by repeat (first | (with_reducible first | exact HB.out | apply lA | apply lN | apply lD | refine lS ?_ ‹_›) | exact HB.out))) : w.heap.size ≤ gb113)); have n4_ := n3_; have n5_ := Aside0.mk ((by rw [hg]; exact Nat.ne_of_lt (blk_lt (g := gb112) (o := .cells #[.int .u64 a0_0, .int .u64 a0_1] 58 (0, 0)) (by (with_reducible repeat (first | apply bN | apply bD | apply bA)); exact BK112.out)) : gb112 ≠ gb113)); have n6_ := sy n5_; clear BK112; clear HB; have BK112 := n0_; have HB := n1_; have BK113 := n2_; have GW113 := n3_; have GE113 := n4_; have NB112_113 := n5_; have NB113_112 := n6_; clear n0_ n1_ n2_ n3_ n4_ n5_ n6_; clear hb hbox hg; have hnb13 := NB112_113.out; have hnc13 := NB113_112.out; have hcz14_0 : w12.cell? ⟨gb112, 0, none⟩ = some (.int .u64 a0_0) := (blk_cell BK112.out 0).trans rfl; have hcz14_1 : w12.cell? ⟨gb112, 1, none⟩ = some (.int .u64 a0_1) := (blk_cell BK112.out 1).trans rfl; have hfz14_0 := blk_frozen BK112.out 0; have hfz14_1 := blk_frozen BK112.out 1) | ((with_reducible refine gate_callee (f := 50) rfl ?_); refine goesL_ (some 11) rfl rfl Try.func50 (by kernel_rfl) rfl #[.agg #[.int .u64 a0_0, .int .u64 a0_1]] rfl (by (try simp only [List.map_toArray, List.map_cons, List.map_nil]); first | done | rfl | (simp only [List.length_drop, List.length_take]; rfl)) ?_; (with_reducible refine (span_one.calls a0_0 a0_1 true _ A8.out).mono ?_); rintro e w15 ⟨rfl, hb⟩; refine ⟨_, rfl, ?_⟩; have n0_ := Aside0.mk (blk_below (g := gb112) (o := .cells #[.int .u64 a0_0, .int .u64 a0_1] 58 (0, 0)) (by (with_reducible repeat (first | apply bN | apply bD | apply bA)); exact BK112.out) hb); have n1_ := Aside0.mk (blk_below (g := gb113) (o := .cells #[.int .u64 0, .int .u64 0] 58 (0, 0)) (by (with_reducible repeat (first | apply bN | apply bD | apply bA)); exact BK113.out) hb); have n2_ := Aside0.mk (below_step (by repeat (first | (with_reducible first | exact HB.out | apply lA | apply lN | apply lD | refine lS ?_ ‹_›) | exact HB.out)) hb); clear BK112; clear BK113; clear HB; have BK112 := n0_; have BK113 := n1_; have HB := n2_; clear n0_ n1_ n2_; (try clear hb); (try clear hb2); (try clear hk); (try clear hi); have hcz16_0 : w15.cell? ⟨gb112, 0, none⟩ = some (.int .u64 a0_0) := (blk_cell BK112.out 0).trans rfl; have hcz16_1 : w15.cell? ⟨gb112, 1, none⟩ = some (.int .u64 a0_1) := (blk_cell BK112.out 1).trans rfl; have hfz16_0 := blk_frozen BK112.out 0; have hfz16_1 := blk_frozen BK112.out 1) | ((with_reducible refine gate_callee (f := 37) rfl ?_); refine goesL_ (some 16) rfl rfl Try.func37 (by kernel_rfl) rfl #[.int .u64 ((a0_0) % 4294967296)] rfl (by (try simp only [List.map_toArray, List.map_cons, List.map_nil]); first | done | rfl | (simp only [List.length_drop, List.length_take]; rfl)) ?_; (with_reducible refine (span_Const.calls ((a0_0) % 4294967296) t115 t116 _ A10.out).mono ?_); rintro e w17 ⟨rfl, hb⟩; refine ⟨_, rfl, ?_⟩; have n0_ := Aside0.mk (blk_below (g := gb112) (o := .cells #[.int .u64 a0_0, .int .u64 a0_1] 58 (0, 0)) (by (with_reducible repeat (first | apply bN | apply bD | apply bA)); exact BK112.out) hb); have n1_ := Aside0.mk (blk_below (g := gb113) (o := .cells #[.int .u64 0, .int .u64 0] 58 (0, 0)) (by (with_reducible repeat (first | apply bN | apply bD | apply bA)); exact BK113.out) hb); have n2_ := Aside0.mk (below_step (by repeat (first | (with_reducible first | exact HB.out | apply lA | apply lN | apply lD | refine lS ?_ ‹_›) | exact HB.out)) hb); clear BK112; clear BK113; clear HB; have BK112 := n0_; have BK113 := n1_; have HB := n2_; clear n0_ n1_ n2_; (try clear hb); (try clear hb2); (try clear hk); (try clear hi); have hcz18_0 : w17.cell? ⟨gb113, 0, none⟩ = some (.int .u64 0) := (blk_cell BK113.out 0).trans rfl; have hcz18_1 : w17.cell? ⟨gb113, 1, none⟩ = some (.int .u64 0) := (blk_cell BK113.out 1).trans rfl; have hfz18_0 := blk_frozen BK113.out 0; have hfz18_1 := blk_frozen BK113.out 1))
   refine bodyPost_ret (results_cell_row rfl _ _ gb113 58 #[.int .u64 t115, .int .u64 t116] (0, 0) _ rfl (by (with_reducible repeat (first | apply bN | apply bD | apply bA)); refine blk_put (cs := #[.int .u64 t115, .int .u64 0]) ?_ 1 _ rfl; (with_reducible repeat (first | apply bN | apply bD | apply bA)); refine blk_put (cs := #[.int .u64 0, .int .u64 0]) ?_ 0 _ rfl; (with_reducible repeat (first | apply bN | apply bD | apply bA)); exact BK113.out) Try.underlying58 rfl (by kernel_rfl)) rfl ?_
   exact ⟨by first | rfl | (simp [errW_none, errW_some] <;> rfl) | (simp [*, errW_none, errW_some] <;> rfl), by repeat (first | (with_reducible first | exact HB.out | apply lA | apply lN | apply lD | refine lS ?_ ‹_›) | exact HB.out)⟩
  ·
   replace c9 := Bool.eq_false_iff.mpr c9
   subst c9
   have H1 : (some (0, 4294967295)) = some (r1, r2) := by rw [if_neg (show ¬ (false = true) by decide)] at H; exact H
   clear H; have H := H1; clear H1; simp only [Option.some.injEq, Prod.mk.injEq] at H; obtain ⟨rfl, rfl⟩ := H
   go_enter Try.func49, Try.ntmps49
   go_wp2_with (first | ((with_reducible refine gate_dst (N := 1) rfl ?_); refine box_event ?hg (N := 1) ?hd (cs := #[.int .u64 a0_0, .int .u64 a0_1]) (t := 58) ?hr ?_; (case hd => rfl); (case hg => rfl); (case hr => first | (go_simp; done) | (go_simp; rfl)); intro gb112 hg w19 hbox hb; have n0_ := Aside0.mk (below_step (by repeat (first | (with_reducible first | exact HB.out | apply lA | apply lN | apply lD) | exact HB.out)) hb); have n1_ := Aside0.mk (hbox); have n2_ := Aside0.mk ((by rw [hg]; exact (below_size (by repeat (first | (with_reducible first | exact HB.out | apply lA | apply lN | apply lD) | exact HB.out))) : w.heap.size ≤ gb112)); have n3_ := n2_; clear HB; have HB := n0_; have BK112 := n1_; have GW112 := n2_; have GE112 := n3_; clear n0_ n1_ n2_ n3_; clear hb hbox hg) | ((with_reducible refine gate_dst (N := 2) rfl ?_); refine box_event ?hg (N := 2) ?hd (cs := #[.int .u64 0, .int .u64 0]) (t := 58) ?hr ?_; (case hd => rfl); (case hg => rfl); (case hr => first | (go_simp; done) | (go_simp; rfl)); intro gb113 hg w20 hbox hb; have n0_ := Aside0.mk (blk_below (g := gb112) (o := .cells #[.int .u64 a0_0, .int .u64 a0_1] 58 (0, 0)) (by (with_reducible repeat (first | apply bN | apply bD | apply bA)); exact BK112.out) hb); have n1_ := Aside0.mk (below_step (by repeat (first | (with_reducible first | exact HB.out | apply lA | apply lN | apply lD | refine lS ?_ ‹_›) | exact HB.out)) hb); have n2_ := Aside0.mk (hbox); have n3_ := Aside0.mk ((by rw [hg]; exact (below_size (by repeat (first | (with_reducible first | exact HB.out | apply lA | apply lN | apply lD | refine lS ?_ ‹_›) | exact HB.out))) : w.heap.size ≤ gb113)); have n4_ := n3_; have n5_ := Aside0.mk ((by rw [hg]; exact Nat.ne_of_lt (blk_lt (g := gb112) (o := .cells #[.int .u64 a0_0, .int .u64 a0_1] 58 (0, 0)) (by (with_reducible repeat (first | apply bN | apply bD | apply bA)); exact BK112.out)) : gb112 ≠ gb113)); have n6_ := sy n5_; clear BK112; clear HB; have BK112 := n0_; have HB := n1_; have BK113 := n2_; have GW113 := n3_; have GE113 := n4_; have NB112_113 := n5_; have NB113_112 := n6_; clear n0_ n1_ n2_ n3_ n4_ n5_ n6_; clear hb hbox hg; have hnb21 := NB112_113.out; have hnc21 := NB113_112.out; have hcz22_0 : w20.cell? ⟨gb112, 0, none⟩ = some (.int .u64 a0_0) := (blk_cell BK112.out 0).trans rfl; have hcz22_1 : w20.cell? ⟨gb112, 1, none⟩ = some (.int .u64 a0_1) := (blk_cell BK112.out 1).trans rfl; have hfz22_0 := blk_frozen BK112.out 0; have hfz22_1 := blk_frozen BK112.out 1) | ((with_reducible refine gate_callee (f := 50) rfl ?_); refine goesL_ (some 11) rfl rfl Try.func50 (by kernel_rfl) rfl #[.agg #[.int .u64 a0_0, .int .u64 a0_1]] rfl (by (try simp only [List.map_toArray, List.map_cons, List.map_nil]); first | done | rfl | (simp only [List.length_drop, List.length_take]; rfl)) ?_; (with_reducible refine (span_one.calls a0_0 a0_1 false _ A8.out).mono ?_); rintro e w23 ⟨rfl, hb⟩; refine ⟨_, rfl, ?_⟩; have n0_ := Aside0.mk (blk_below (g := gb112) (o := .cells #[.int .u64 a0_0, .int .u64 a0_1] 58 (0, 0)) (by (with_reducible repeat (first | apply bN | apply bD | apply bA)); exact BK112.out) hb); have n1_ := Aside0.mk (blk_below (g := gb113) (o := .cells #[.int .u64 0, .int .u64 0] 58 (0, 0)) (by (with_reducible repeat (first | apply bN | apply bD | apply bA)); exact BK113.out) hb); have n2_ := Aside0.mk (below_step (by repeat (first | (with_reducible first | exact HB.out | apply lA | apply lN | apply lD | refine lS ?_ ‹_›) | exact HB.out)) hb); clear BK112; clear BK113; clear HB; have BK112 := n0_; have BK113 := n1_; have HB := n2_; clear n0_ n1_ n2_; (try clear hb); (try clear hb2); (try clear hk); (try clear hi); have hcz24_0 : w23.cell? ⟨gb113, 0, none⟩ = some (.int .u64 0) := (blk_cell BK113.out 0).trans rfl; have hcz24_1 : w23.cell? ⟨gb113, 1, none⟩ = some (.int .u64 0) := (blk_cell BK113.out 1).trans rfl; have hfz24_0 := blk_frozen BK113.out 0; have hfz24_1 := blk_frozen BK113.out 1))
   refine bodyPost_ret (results_cell_row rfl _ _ gb113 58 #[.int .u64 0, .int .u64 4294967295] (0, 0) _ rfl (by (with_reducible repeat (first | apply bN | apply bD | apply bA)); refine blk_put (cs := #[.int .u64 0, .int .u64 0]) ?_ 1 _ rfl; (with_reducible repeat (first | apply bN | apply bD | apply bA)); refine blk_put (cs := #[.int .u64 0, .int .u64 0]) ?_ 0 _ rfl; (with_reducible repeat (first | apply bN | apply bD | apply bA)); exact BK113.out) Try.underlying58 rfl (by kernel_rfl)) rfl ?_
   exact ⟨by first | rfl | (simp [errW_none, errW_some] <;> rfl) | (simp [*, errW_none, errW_some] <;> rfl), by repeat (first | (with_reducible first | exact HB.out | apply lA | apply lN | apply lD | refine lS ?_ ‹_›) | exact HB.out)⟩

/-! ### bits_Mul64: function 59 (given) -/
def bits_Mul64.f (a0 : Int) (a1 : Int) : Option (Int × Int) := if (0 ≤ a0 ∧ a0 ≤ 18446744073709551615) ∧ (0 ≤ a1 ∧ a1 ≤ 18446744073709551615) then some (((a0.toNat * a1.toNat / 18446744073709551616 : Nat) : Int), ((a0.toNat * a1.toNat % 18446744073709551616 : Nat) : Int)) else none
theorem bits_Mul64.calls (a0 : Int) (a1 : Int) (r1 : Int) (r2 : Int) (w : World) (h : bits_Mul64.f a0 a1 = some (r1, r2)) :
  Calls Try.prog 59 #[.int .u64 a0, .int .u64 a1] w fun e w' => e = .returned (.tuple #[.int .u64 r1, .int .u64 r2]) ∧ Drawn0 w w' := by
 unfold bits_Mul64.f at h
 split at h
 ·
  rename_i hb
  obtain ⟨⟨h0, h1⟩, h2, h3⟩ := hb
  obtain ⟨x, rfl⟩ := Int.eq_ofNat_of_zero_le h0
  obtain ⟨y, rfl⟩ := Int.eq_ofNat_of_zero_le h2
  simp only [Option.some.injEq, Prod.mk.injEq] at h
  obtain ⟨rfl, rfl⟩ := h
  refine (Try.bits_Mul64 x y (by omega) (by omega) w).mono ?_
  rintro e w' ⟨rfl, rfl⟩
  exact ⟨rfl, Drawn0.refl _⟩
 ·
  exact absurd h (by simp)

/-! ### bits_Len64: function 47 (given) -/
def bits_Len64.f (a0 : Int) : Option (Int) := if 0 ≤ a0 ∧ a0 ≤ 18446744073709551615 then some ((Lib.bitLen a0.toNat : Nat) : Int) else none
theorem bits_Len64.calls (a0 : Int) (r : Int) (w : World) (h : bits_Len64.f a0 = some r) :
  Calls Try.prog 47 #[.int .u64 a0] w fun e w' => e = .returned (.int .i64 r) ∧ Drawn0 w w' := by
 unfold bits_Len64.f at h
 split at h
 ·
  rename_i hb
  obtain rfl := Option.some.inj h
  refine (Try.bits_Len64 a0 w hb.1 hb.2).mono ?_
  rintro e w' ⟨rfl, rfl⟩
  exact ⟨rfl, Drawn0.refl _⟩
 ·
  exact absurd h (by simp)

/-! ### span_below: function 60 -/
def span_below.f (a0 : Int) : Option (Int) := (bits_Len64.f a0).bind fun t117 => (if 0 ≤ (IntKind.u64.wrap (t117)) then (some (IntKind.u64.wrap ((shl .u64 1 (IntKind.u64.wrap (t117))) - 1))) else (none))
set_option maxHeartbeats 8000000 in
set_option maxRecDepth 100000 in
theorem span_below.calls (a0 : Int) (r : Int) (w : World) (h : span_below.f a0 = some r) :
  Calls Try.prog 60 #[.int .u64 a0] w fun e w' => e = .returned (.int .u64 r) ∧ Drawn0 w w' := by
 have H : ((bits_Len64.f a0).bind fun t117 => (if 0 ≤ (IntKind.u64.wrap (t117)) then (some (IntKind.u64.wrap ((shl .u64 1 (IntKind.u64.wrap (t117))) - 1))) else (none))) = some r := h
 clear h; replace H := Option.bind_eq_some_iff.mp H; obtain ⟨t117, A20, H⟩ := H
 replace H : (if 0 ≤ (IntKind.u64.wrap (t117)) then (some (IntKind.u64.wrap ((shl .u64 1 (IntKind.u64.wrap (t117))) - 1))) else (none)) = some r := H
 have A2 := Aside0.mk A20; clear A20
 obtain ⟨ji3, hji3⟩ : ∃ j_ : Int, (IntKind.u64.wrap (t117)) = j_ := ⟨_, rfl⟩
 replace H : (if 0 ≤ (ji3) then (some (IntKind.u64.wrap ((shl .u64 1 (ji3)) - 1))) else (none)) = some r := by first | (rw [hji3] at H; exact H) | (simp only [hji3] at H ⊢; exact H)
 (try rw [hji3] at A2)
 by_cases c4 : 0 ≤ (ji3)
 ·
  rw [if_pos c4] at H
  have c4b0 := eq_true c4
  have c4b1 : decide (0 ≤ (ji3)) = true := decide_eq_true c4; clear c4
  obtain ⟨ji5, hji5⟩ : ∃ j_ : Int, (shl .u64 1 (ji3)) = j_ := ⟨_, rfl⟩
  replace H : (some (IntKind.u64.wrap ((ji5) - 1))) = some r := by first | (rw [hji5] at H; exact H) | (simp only [hji5] at H ⊢; exact H)
  (try rw [hji5] at A2)
  have hji5_ : (IntKind.u64.wrap (1 * 2 ^ min (ji3).toNat 64)) = ji5 := hji5
  have hji5z : (ji3) ≤ 64 → (IntKind.u64.wrap (1 * 2 ^ (ji3).toNat)) = ji5 := shl_small hji5
  have hji5u : (IntKind.u64.wrap (2 ^ min (ji3).toNat 64)) = ji5 := by have h_ := hji5_; rw [Int.one_mul] at h_; exact h_
  have hji5v : (ji3) ≤ 64 → (IntKind.u64.wrap (2 ^ (ji3).toNat)) = ji5 := fun hle_ => by have h_ := hji5z hle_; rw [Int.one_mul] at h_; exact h_
  obtain rfl := Option.some.inj H
  go_enter Try.func60, Try.ntmps60
  go_wp2_with (first | ((with_reducible refine gate_callee (f := 47) rfl ?_); refine goesL_ (some 4) rfl rfl Try.func47 (by kernel_rfl) rfl #[.int .u64 a0] rfl (by (try simp only [List.map_toArray, List.map_cons, List.map_nil]); first | done | rfl | (simp only [List.length_drop, List.length_take]; rfl)) ?_; (with_reducible refine (bits_Len64.calls a0 t117 _ A2.out).mono ?_); rintro e w' ⟨rfl, ⟨nd, rfl⟩⟩; refine ⟨_, rfl, ?_⟩))
  go_ret
  exact ⟨by first | rfl | (simp; done) | (simp only [← hji3, ← hji5] <;> (first | rfl | simp)) | (simp [*]; done), by repeat (first | exact Drawn0.refl _ | apply Drawn0.step)⟩
 ·
  rw [if_neg c4] at H
  exact absurd H (by simp)

end Go.Proofs.Ytladlljnpmpdpaa.PSpanNarrow
