-- Written by a program of this session (a variant of the print), for this claim. Lean checks it.
import Derived.Test.YtladlljnpmpdpaaPTnumBestx0
import Derived.Test.YtladlljnpmpdpaaPTnumBestx6
namespace Go.Proofs.Ytladlljnpmpdpaa.PTnumBest
open Go.RowKit Go.Proofs.YtladlljnpmpdpaaW.PrintWords Go.Proofs.YtladlljnpmpdpaaW.PrintLast Go.Proofs.YtladlljnpmpdpaaW.PrintMore
attribute [local go_sem] max2_int min2_int max_two min_two max_three min_three max_four min_four   -- for this text's walks alone
attribute [local go_sem high] Go.Proofs.Ytladlljnpmpdpaa.NotLaw.not_u64 Go.Proofs.Ytladlljnpmpdpaa.NotLaw.not_u32 Go.Proofs.Ytladlljnpmpdpaa.NotLaw.not_u16 Go.Proofs.Ytladlljnpmpdpaa.NotLaw.not_u8
set_option linter.unusedVariables false
set_option linter.unusedSimpArgs false

/-! ### posternref14_All: function 20 -/
mutual
def posternref14_All.l0 : Nat → List Int → Int → Int → Int → Option (List Int × Bool)
  | 0, _, _, _, _ => none
  | k + 1, x4, x5, x197000, x197001 => if x5 < 64 then (if 0 ≤ (IntKind.u64.wrap (x5)) then (if (Go.bits .and .u64 (shr .u64 x197001 (IntKind.u64.wrap (x5))) 1) = 0 then (posternref14_All.l0 k x4 (wrap64 (x5 + 1)) x197000 x197001) else (if (x4.length : Int) ≥ 64 then (some (([] : List Int), false)) else (posternref14_All.l1 k x4 x5 (x4.length : Int) 0 x197000 x197001))) else (none)) else (some (x4, true))
def posternref14_All.l1 : Nat → List Int → Int → Int → Int → Int → Int → Option (List Int × Bool)
  | 0, _, _, _, _, _, _ => none
  | k + 1, x4, x5, x6, x7, x197000, x197001 => if x7 < x6 then (if 0 ≤ x7 then (if x7 < (x4.length : Int) then (if 0 ≤ (IntKind.u64.wrap (x5)) then (if x4.length < 17592186044416 then (posternref14_All.l1 k (x4 ++ [Go.bits .or .u64 (rd x4 x7) (shl .u64 1 (IntKind.u64.wrap (x5)))]) x5 x6 (wrap64 (x7 + 1)) x197000 x197001) else (none)) else (none)) else (none)) else (none)) else (posternref14_All.l0 k x4 (wrap64 (x5 + 1)) x197000 x197001)
end
def posternref14_All.f (k : Nat) (a0_0 : Int) (a0_1 : Int) : Option (List Int × Bool) := posternref14_All.l0 k (([Go.bits .andNot .u64 a0_0 a0_1] : List Int)) 0 a0_0 a0_1
theorem posternref14_All.mono_l : ∀ k, (∀ y0 y1 y2 y3, LeO (posternref14_All.l0 k y0 y1 y2 y3) (posternref14_All.l0 (k + 1) y0 y1 y2 y3)) ∧ (∀ y0 y1 y2 y3 y4 y5, LeO (posternref14_All.l1 k y0 y1 y2 y3 y4 y5) (posternref14_All.l1 (k + 1) y0 y1 y2 y3 y4 y5))
  | 0 => ⟨fun _ _ _ _ r h => by simp [posternref14_All.l0] at h, fun _ _ _ _ _ _ r h => by simp [posternref14_All.l1] at h⟩
  | k + 1 => by
    obtain ⟨ih0, ih1⟩ := posternref14_All.mono_l k
    refine ⟨?_, ?_⟩
    · intro y0 y1 y2 y3
      unfold posternref14_All.l0
      repeat' first
      | (with_reducible exact ih0 _ _ _ _)
      | (with_reducible exact ih1 _ _ _ _ _ _)
      | (with_reducible exact LeO.refl _)
      | (with_reducible exact LeO.none _)
      | (with_reducible refine LeO.ite ?_ ?_)
      | (with_reducible refine LeO.bind ?_ (fun _ => ?_))
      | exact ih0 _ _ _ _
      | exact ih1 _ _ _ _ _ _
      | exact LeO.none _
      | refine LeO.ite ?_ ?_
      | refine LeO.bind ?_ (fun _ => ?_)
    · intro y0 y1 y2 y3 y4 y5
      unfold posternref14_All.l1
      repeat' first
      | (with_reducible exact ih0 _ _ _ _)
      | (with_reducible exact ih1 _ _ _ _ _ _)
      | (with_reducible exact LeO.refl _)
      | (with_reducible exact LeO.none _)
      | (with_reducible refine LeO.ite ?_ ?_)
      | (with_reducible refine LeO.bind ?_ (fun _ => ?_))
      | exact ih0 _ _ _ _
      | exact ih1 _ _ _ _ _ _
      | exact LeO.none _
      | refine LeO.ite ?_ ?_
      | refine LeO.bind ?_ (fun _ => ?_)
theorem posternref14_All.mono : ∀ a0 a1 k, LeO (posternref14_All.f k a0 a1) (posternref14_All.f (k + 1) a0 a1) := by
  intro a0 a1 k
  obtain ⟨ih0, ih1⟩ := posternref14_All.mono_l k
  unfold posternref14_All.f
  repeat' first
      | (with_reducible exact ih0 _ _ _ _)
      | (with_reducible exact ih1 _ _ _ _ _ _)
      | (with_reducible exact LeO.refl _)
      | (with_reducible exact LeO.none _)
      | (with_reducible refine LeO.ite ?_ ?_)
      | (with_reducible refine LeO.bind ?_ (fun _ => ?_))
      | exact ih0 _ _ _ _
      | exact ih1 _ _ _ _ _ _
      | exact LeO.none _
      | refine LeO.ite ?_ ?_
      | refine LeO.bind ?_ (fun _ => ?_)
set_option maxHeartbeats 8000000 in
set_option maxRecDepth 100000 in
theorem posternref14_All.calls (k : Nat) (a0_0 : Int) (a0_1 : Int) (r1 : List Int) (r2 : Bool) (w : World) (h : posternref14_All.f k a0_0 a0_1 = some (r1, r2)) :
    Calls Try.prog 20 #[.agg #[.int .u64 a0_0, .int .u64 a0_1]] w fun e w' => ∃ v0_ : Value, e = .returned (.tuple #[v0_, .bool r2]) ∧ Kd.R (Kd.int .u64) 22 w' w.heap.size (fun _ => True) v0_ r1 ∧ Below w.heap.size w w' := by
  have hu24 := Try.underlying24
  have HB := Aside0.mk (Below.refl w.heap.size w)
  have H : (posternref14_All.l0 k (([Go.bits .andNot .u64 a0_0 a0_1] : List Int)) 0 a0_0 a0_1) = some (r1, r2) := h
  clear h
  obtain ⟨y197, hy197⟩ : ∃ y_ : List Int, y_ = (([Go.bits .andNot .u64 a0_0 a0_1] : List Int)) := ⟨_, rfl⟩
  replace H : (posternref14_All.l0 k y197 0 a0_0 a0_1) = some (r1, r2) := by first | (rw [hy197]; with_reducible exact H) | (have H2_ := (Option.bind_some _ _).symm.trans H; rw [hy197]; with_reducible exact H2_) | (have H2_ := (Option.bind_some _ _).symm.trans H; with_reducible exact H2_) | with_reducible exact H | (rw [hy197]; exact H) | exact H
  have Ny197 := Aside0.mk hy197
  clear hy197
  have H' := Aside0.mk H
  clear H
  go_enter Try.func20, Try.ntmps20
  go_wp2_with (first | ((with_reducible refine gate_dst (N := 1) rfl ?_); refine box_event ?hg (N := 1) ?hd (cs := #[.int .u64 a0_0, .int .u64 a0_1]) (t := 24) ?hr ?_; (case hd => rfl); (case hg => rfl); (case hr => first | (go_simp; done) | (go_simp; rfl)); intro gb196 hg w2 hbox hb; have n0_ := Aside0.mk (below_step (by repeat (first | (with_reducible first | exact HB.out | apply below_alloc | apply pw_below_drewN | apply below_drew1) | exact HB.out)) hb); have n1_ := Aside0.mk (hbox); have n2_ := Aside0.mk ((by rw [hg]; exact (below_size (by repeat (first | (with_reducible first | exact HB.out | apply below_alloc | apply pw_below_drewN | apply below_drew1) | exact HB.out))) : w.heap.size ≤ gb196)); have n3_ := Aside0.mk ((by rw [hg]; exact (below_size (by repeat (first | (with_reducible first | exact HB.out | apply below_alloc | apply pw_below_drewN | apply below_drew1) | exact HB.out))) : w.heap.size ≤ gb196)); clear HB; have HB := n0_; have BK196 := n1_; have GW196 := n2_; have GE196 := n3_; clear n0_ n1_ n2_ n3_; clear hb hbox hg; have hcz3_0 : w2.cell? ⟨gb196, 0, none⟩ = some (.int .u64 a0_0) := (blk_cell BK196.out 0).trans rfl; have hcz3_1 : w2.cell? ⟨gb196, 1, none⟩ = some (.int .u64 a0_1) := (blk_cell BK196.out 1).trans rfl; have hfz3_0 := blk_frozen BK196.out 0; have hfz3_1 := blk_frozen BK196.out 1) | ((with_reducible refine gate_dst (N := 13) rfl ?_); refine Kd.R_lit (Kd.int .u64) _ 22 ?hg (N := 13) ?hd (xs := ([Go.bits .andNot .u64 a0_0 a0_1] : List Int)) (inner := [.int .u64 (Go.bits .andNot .u64 a0_0 a0_1)]) (ok := fun _ => True) (okp := fun _ => True) ?hr ?hp (fun _ hk => hk) trivial (Below.refl _ _) (Nat.le_refl _) (by simp) ?_; (case hd => rfl); (case hg => rfl); (case hr => first | (go_simp; done) | (go_simp; rfl)); (case hp => exact (Reps.one (show Kd.M (Kd.int .u64) _ _ _ (Go.bits .andNot .u64 a0_0 a0_1) [.int .u64 (Go.bits .andNot .u64 a0_0 a0_1)] from rfl) (Reps.none _ _))); intro v198 w4 ho5 hb hg_ hnew_; clear hg_ hnew_; (first | rw [← Ny197.out] at ho5 | (simp only [Int.reduceToNat] at ho5; rw [← Ny197.out] at ho5)); have n0_ := Aside0.mk (Kd.R_lower ho5 (below_size (by repeat (first | (with_reducible first | exact HB.out | apply below_alloc | apply pw_below_drewN | apply below_drew1 | refine below_set ?_ GE196.out) | exact HB.out)))); have n1_ := Aside0.mk (blk_below (g := gb196) (o := .cells #[.int .u64 a0_0, .int .u64 a0_1] 24 (0, 0)) (by (with_reducible repeat (first | refine blk_drewN ?_ _ | refine blk_drew ?_ | refine blk_alloc ?_ _)); exact BK196.out) hb); have n2_ := Aside0.mk (below_step (by repeat (first | (with_reducible first | exact HB.out | apply below_alloc | apply pw_below_drewN | apply below_drew1 | refine below_set ?_ GE196.out) | exact HB.out)) hb); clear BK196; clear HB; have HO199 := n0_; have BK196 := n1_; have HB := n2_; clear n0_ n1_ n2_; clear hb ho5))
  go_loopg [4, 5] k (fun kq v4 v5 w' => ∃ (x4_1 : List Int) (x5_1 : Int), v5 = .int .i64 x5_1 ∧ Aside0 (posternref14_All.l0 kq x4_1 x5_1 a0_0 a0_1 = some (r1, r2)) ∧ Aside0 (kq ≤ k) ∧ Aside0 (Kd.R (Kd.int .u64) 22 w' w.heap.size (fun _ => True) v4 x4_1) ∧ Aside0 (w'.heap[gb196]? = some (.cells #[.int .u64 a0_0, .int .u64 a0_1] 24 (0, 0))) ∧ Aside0 (Below w.heap.size w w'))
  case atStart => exact ⟨(y197), (0), (by first | rfl | (simp; done) | (simp [*]; done)), H', ⟨Nat.le_refl _⟩, ⟨by (with_reducible repeat (first | apply Kd.R_alloc | apply Kd.R_drewN | apply Kd.R_drew)); exact HO199.out⟩, ⟨by (with_reducible repeat (first | refine blk_drewN ?_ _ | refine blk_drew ?_ | refine blk_alloc ?_ _)); exact BK196.out⟩, ⟨by repeat (first | (with_reducible first | exact HB.out | apply below_alloc | apply pw_below_drewN | apply below_drew1 | refine below_set ?_ GE196.out) | exact HB.out)⟩⟩
  case round =>
    clear H'
    try clear c2
    try clear p2
    try clear hcz3_0
    try clear hcz3_1
    try clear hfz3_0
    try clear hfz3_1
    obtain ⟨x4_1, x5_1, rfl, HA, HK1, HO_4, BK196, HB⟩ := hrel
    cases gk with
    | zero => exact absurd HA.out (by simp [posternref14_All.l0])
    | succ k1 =>
      have H := HA.out
      clear HA
      simp only [posternref14_All.l0] at H
      by_cases c6 : x5_1 < 64
      · rw [if_pos c6] at H
        have c6b0 : decide (x5_1 < 64) = true := decide_eq_true c6
        clear c6
        obtain ⟨ji7, hji7⟩ : ∃ j_ : Int, (IntKind.u64.wrap (x5_1)) = j_ := ⟨_, rfl⟩
        replace H : (if 0 ≤ (ji7) then (if (Go.bits .and .u64 (shr .u64 a0_1 (ji7)) 1) = 0 then (posternref14_All.l0 k1 x4_1 (wrap64 (x5_1 + 1)) a0_0 a0_1) else (if (x4_1.length : Int) ≥ 64 then (some (([] : List Int), false)) else (posternref14_All.l1 k1 x4_1 x5_1 (x4_1.length : Int) 0 a0_0 a0_1))) else (none)) = some (r1, r2) := by first | (rw [hji7] at H; exact H) | (simp only [hji7] at H ⊢; exact H)
        by_cases c8 : 0 ≤ (ji7)
        · rw [if_pos c8] at H
          have c8b0 := eq_true c8
          have c8b1 : decide (0 ≤ (ji7)) = true := decide_eq_true c8
          clear c8
          obtain ⟨ji9, hji9⟩ : ∃ j_ : Int, (shr .u64 a0_1 (ji7)) = j_ := ⟨_, rfl⟩
          replace H : (if (Go.bits .and .u64 (ji9) 1) = 0 then (posternref14_All.l0 k1 x4_1 (wrap64 (x5_1 + 1)) a0_0 a0_1) else (if (x4_1.length : Int) ≥ 64 then (some (([] : List Int), false)) else (posternref14_All.l1 k1 x4_1 x5_1 (x4_1.length : Int) 0 a0_0 a0_1))) = some (r1, r2) := by first | (rw [hji9] at H; exact H) | (simp only [hji9] at H ⊢; exact H)
          have hji9_ : (a0_1 / 2 ^ min (ji7).toNat 64) = ji9 := hji9
          have hji9z : (ji7) ≤ 64 → (a0_1 / 2 ^ (ji7).toNat) = ji9 := shr_small hji9
          by_cases c10 : (Go.bits .and .u64 (ji9) 1) = 0
          · rw [if_pos c10] at H
            have c10b0 : ((Go.bits .and .u64 (ji9) 1) == 0) = true := beq_iff_eq.mpr c10
            have c10b1 : ((Go.bits .and .u64 (ji9) 1) != 0) = false := bne_eq_false_iff_eq.mpr c10
            clear c10
            have H' := Aside0.mk H
            clear H
            have hcz11_0 : wr.cell? ⟨gb196, 0, none⟩ = some (.int .u64 a0_0) := (blk_cell BK196.out 0).trans rfl
            have hcz11_1 : wr.cell? ⟨gb196, 1, none⟩ = some (.int .u64 a0_1) := (blk_cell BK196.out 1).trans rfl
            have hfz11_0 := blk_frozen BK196.out 0
            have hfz11_1 := blk_frozen BK196.out 1
            go_wp2
            go_roundg k1
            case measure => have := HK1.out; omega
            case rel => exact ⟨(x4_1), (wrap64 (x5_1 + 1)), (by first | rfl | (simp; done) | (simp [*]; done)), H', ⟨by have := HK1.out; omega⟩, ⟨by (with_reducible repeat (first | apply Kd.R_alloc | apply Kd.R_drewN | apply Kd.R_drew)); exact HO_4.out⟩, ⟨by (with_reducible repeat (first | refine blk_drewN ?_ _ | refine blk_drew ?_ | refine blk_alloc ?_ _)); exact BK196.out⟩, ⟨by repeat (first | (with_reducible first | exact HB.out | apply below_alloc | apply pw_below_drewN | apply below_drew1 | refine below_set ?_ GE196.out) | exact HB.out)⟩⟩
          · rw [if_neg c10] at H
            have c10b0 : ((Go.bits .and .u64 (ji9) 1) == 0) = false := beq_eq_false_iff_ne.mpr c10
            have c10b1 : ((Go.bits .and .u64 (ji9) 1) != 0) = true := bne_iff_ne.mpr c10
            by_cases c12 : (x4_1.length : Int) ≥ 64
            · rw [if_pos c12] at H
              have c12b0 : decide (64 ≤ (x4_1.length : Int)) = true := decide_eq_true c12
              have c12b1 : decide (64 ≤ x4_1.length) = true := decide_eq_true (by omega)
              clear c12
              simp only [Option.some.injEq, Prod.mk.injEq] at H
              obtain ⟨rfl, rfl⟩ := H
              have hcz13_0 : wr.cell? ⟨gb196, 0, none⟩ = some (.int .u64 a0_0) := (blk_cell BK196.out 0).trans rfl
              have hcz13_1 : wr.cell? ⟨gb196, 1, none⟩ = some (.int .u64 a0_1) := (blk_cell BK196.out 1).trans rfl
              have hfz13_0 := blk_frozen BK196.out 0
              have hfz13_1 := blk_frozen BK196.out 1
              obtain ⟨Ao14, co14, eo14⟩ := Kd.R_slice HO_4.out
              subst eo14
              go_wp2
              go_ret2
              exact ⟨_, by first | rfl | (simp [errW_none, errW_some] <;> rfl) | (simp only [← hji7, ← hji9]; first | rfl | (simp [errW_none, errW_some] <;> rfl)) | (simp [*, errW_none, errW_some] <;> rfl), by first | exact Kd.R_nil _ _ _ _ _ | exact Kd.N_nil _ _ _ _ _ | exact Kd.V_nil _ _ _ _ _ | exact Kd.Q_nil _ _ _ _ _ | exact Kd.S_nil _ _ _ _ _, by repeat (first | (with_reducible first | exact HB.out | apply below_alloc | apply pw_below_drewN | apply below_drew1 | refine below_set ?_ GE196.out) | exact HB.out)⟩
            · rw [if_neg c12] at H
              have c12b0 : decide (64 ≤ (x4_1.length : Int)) = false := decide_eq_false c12
              have c12b1 : decide (64 ≤ x4_1.length) = false := decide_eq_false (by omega)
              clear c12
              have H' := Aside0.mk H
              clear H
              have hcz15_0 : wr.cell? ⟨gb196, 0, none⟩ = some (.int .u64 a0_0) := (blk_cell BK196.out 0).trans rfl
              have hcz15_1 : wr.cell? ⟨gb196, 1, none⟩ = some (.int .u64 a0_1) := (blk_cell BK196.out 1).trans rfl
              have hfz15_0 := blk_frozen BK196.out 0
              have hfz15_1 := blk_frozen BK196.out 1
              obtain ⟨Ao16, co16, eo16⟩ := Kd.R_slice HO_4.out
              subst eo16
              go_wp2
              go_loopg [4, 7] k1 (fun kq v4 v7 w' => ∃ (x4_2 : List Int) (x7_2 : Int), v7 = .int .i64 x7_2 ∧ Aside0 (posternref14_All.l1 kq x4_2 x5_1 (x4_1.length : Int) x7_2 a0_0 a0_1 = some (r1, r2)) ∧ Aside0 (kq ≤ k1) ∧ Aside0 (Kd.R (Kd.int .u64) 22 w' w.heap.size (fun _ => True) v4 x4_2) ∧ Aside0 (w'.heap[gb196]? = some (.cells #[.int .u64 a0_0, .int .u64 a0_1] 24 (0, 0))) ∧ Aside0 (Below w.heap.size w w'))
              case atStart => exact ⟨(x4_1), (0), (by first | rfl | (simp; done) | (simp [*]; done)), H', ⟨Nat.le_refl _⟩, ⟨by (with_reducible repeat (first | apply Kd.R_alloc | apply Kd.R_drewN | apply Kd.R_drew)); exact HO_4.out⟩, ⟨by (with_reducible repeat (first | refine blk_drewN ?_ _ | refine blk_drew ?_ | refine blk_alloc ?_ _)); exact BK196.out⟩, ⟨by repeat (first | (with_reducible first | exact HB.out | apply below_alloc | apply pw_below_drewN | apply below_drew1 | refine below_set ?_ GE196.out) | exact HB.out)⟩⟩
              case round =>
                clear H'
                try clear hji9z
                try clear hji9_
                try clear hji9
                try clear hji7
                try clear c1
                try clear c2
                try clear p2
                try clear c6
                try clear c6b0
                try clear p6
                try clear c8
                try clear c8b0
                try clear c8b1
                try clear c10
                try clear c10b0
                try clear c10b1
                try clear c12
                try clear c12b0
                try clear c12b1
                try clear hcz11_0
                try clear hcz11_1
                try clear hcz13_0
                try clear hcz13_1
                try clear hcz15_0
                try clear hcz15_1
                try clear hcz3_0
                try clear hcz3_1
                try clear hfz11_0
                try clear hfz11_1
                try clear hfz13_0
                try clear hfz13_1
                try clear hfz15_0
                try clear hfz15_1
                try clear hfz3_0
                try clear hfz3_1
                try clear p2
                obtain ⟨x4_2, x7_2, rfl, HA, HK2, HO_4, BK196, HB⟩ := hrel
                cases gk with
                | zero => exact absurd HA.out (by simp [posternref14_All.l1])
                | succ k2 =>
                  have H := HA.out
                  clear HA
                  simp only [posternref14_All.l1] at H
                  by_cases c17 : x7_2 < (x4_1.length : Int)
                  · rw [if_pos c17] at H
                    have c17b0 : decide (x7_2 < (x4_1.length : Int)) = true := decide_eq_true c17
                    clear c17
                    by_cases c18 : 0 ≤ x7_2
                    · rw [if_pos c18] at H
                      have c18b0 : decide (0 ≤ x7_2) = true := decide_eq_true c18
                      clear c18
                      by_cases c19 : x7_2 < (x4_2.length : Int)
                      · rw [if_pos c19] at H
                        have c19b0 : decide (x7_2 < (x4_2.length : Int)) = true := decide_eq_true c19
                        clear c19
                        obtain ⟨ji20, hji20⟩ : ∃ j_ : Int, (IntKind.u64.wrap (x5_1)) = j_ := ⟨_, rfl⟩
                        replace H : (if 0 ≤ (ji20) then (if x4_2.length < 17592186044416 then (posternref14_All.l1 k2 (x4_2 ++ [Go.bits .or .u64 (rd x4_2 x7_2) (shl .u64 1 (ji20))]) x5_1 (x4_1.length : Int) (wrap64 (x7_2 + 1)) a0_0 a0_1) else (none)) else (none)) = some (r1, r2) := by first | (rw [hji20] at H; exact H) | (simp only [hji20] at H ⊢; exact H)
                        by_cases c21 : 0 ≤ (ji20)
                        · rw [if_pos c21] at H
                          have c21b0 := eq_true c21
                          have c21b1 : decide (0 ≤ (ji20)) = true := decide_eq_true c21
                          clear c21
                          obtain ⟨ji22, hji22⟩ : ∃ j_ : Int, (shl .u64 1 (ji20)) = j_ := ⟨_, rfl⟩
                          replace H : (if x4_2.length < 17592186044416 then (posternref14_All.l1 k2 (x4_2 ++ [Go.bits .or .u64 (rd x4_2 x7_2) (ji22)]) x5_1 (x4_1.length : Int) (wrap64 (x7_2 + 1)) a0_0 a0_1) else (none)) = some (r1, r2) := by first | (rw [hji22] at H; exact H) | (simp only [hji22] at H ⊢; exact H)
                          have hji22_ : (IntKind.u64.wrap (1 * 2 ^ min (ji20).toNat 64)) = ji22 := hji22
                          have hji22z : (ji20) ≤ 64 → (IntKind.u64.wrap (1 * 2 ^ (ji20).toNat)) = ji22 := shl_small hji22
                          have hji22u : (IntKind.u64.wrap (2 ^ min (ji20).toNat 64)) = ji22 := by have h_ := hji22_; rw [Int.one_mul] at h_; exact h_
                          have hji22v : (ji20) ≤ 64 → (IntKind.u64.wrap (2 ^ (ji20).toNat)) = ji22 := fun hle_ => by have h_ := hji22z hle_; rw [Int.one_mul] at h_; exact h_
                          by_cases c23 : x4_2.length < 17592186044416
                          · rw [if_pos c23] at H
                            have LMc23 := Aside0.mk c23
                            clear c23
                            obtain ⟨y201, hy201⟩ : ∃ y_ : List Int, y_ = (x4_2 ++ [Go.bits .or .u64 (rd x4_2 x7_2) (ji22)]) := ⟨_, rfl⟩
                            replace H : (posternref14_All.l1 k2 y201 x5_1 (x4_1.length : Int) (wrap64 (x7_2 + 1)) a0_0 a0_1) = some (r1, r2) := by first | (rw [hy201]; with_reducible exact H) | (have H2_ := (Option.bind_some _ _).symm.trans H; rw [hy201]; with_reducible exact H2_) | (have H2_ := (Option.bind_some _ _).symm.trans H; with_reducible exact H2_) | with_reducible exact H | (rw [hy201]; exact H) | exact H
                            have Ny201 := Aside0.mk hy201
                            clear hy201
                            have H' := Aside0.mk H
                            clear H
                            obtain ⟨Ao24, co24, eo24⟩ := Kd.R_slice HO_4.out
                            subst eo24
                            have p200 : 0 ≤ (x7_2 : Int) := of_decide_eq_true (by first | (with_reducible assumption) | assumption)
                            have q200 : x7_2 < (x4_2.length : Int) := of_decide_eq_true (by first | (with_reducible assumption) | assumption)
                            obtain ⟨ad200, e200, hx200_0⟩ := Kd.at_int (Kd.R_reads' HO_4.out).2.2 x7_2 p200 q200
                            cases e200
                            replace p200 := eq_true p200
                            replace q200 := eq_true q200
                            go_wp2_with (first | ((with_reducible refine gate_builtin (b := .append) (xs := #[.tmp 35, .tmp 44]) rfl ?_); at_builtin; refine Kd.R_append (Kd.int .u64) (w0 := w) w.heap.size rfl (.tmp 35) (.tmp 44) 40 22 (.int .u64 0) 8 rfl Try.underlying40 info22 rfl (by decide) (by omega) (.slice (some ad200) x4_2.length co24) x4_2 (Go.bits .or .u64 (rd x4_2 x7_2) (ji22)) [.int .u64 (Go.bits .or .u64 (rd x4_2 x7_2) (ji22))] (fun _ => True) (fun _ => False) rfl rfl ?aP (fun _ hk => hk.elim) ?aF ?aO ?aB ?aS ?aL ?_; (case aP => exact rfl); (case aB => exact (by repeat (first | (with_reducible first | exact HB.out | apply below_alloc | apply pw_below_drewN | apply below_drew1 | refine below_set ?_ GE196.out) | exact HB.out))); (case aF => exact (fun _ _ => trivial)); (case aO => exact (by (with_reducible repeat (first | apply Kd.R_alloc | apply Kd.R_drewN | apply Kd.R_drew)); exact HO_4.out)); (case aS => exact (below_size (by repeat (first | (with_reducible first | exact HB.out | apply below_alloc | apply pw_below_drewN | apply below_drew1 | refine below_set ?_ GE196.out) | exact HB.out)))); (case aL => have := LMc23.out; omega); intro v202 w25 ho hb hg hat; rw [← Ny201.out] at ho; have n0_ := Aside0.mk (blk_grown (g := gb196) (o := .cells #[.int .u64 a0_0, .int .u64 a0_1] 24 (0, 0)) (by (with_reducible repeat (first | refine blk_drewN ?_ _ | refine blk_drew ?_ | refine blk_alloc ?_ _)); exact BK196.out) hg (Kd.R_ne HO_4.out BK196.out (by decide))); have n1_ := Aside0.mk (hb); have n2_ := Aside0.mk (ho); clear BK196; clear HB; clear HO_4; have BK196 := n0_; have HB := n1_; have HO203 := n2_; clear n0_ n1_ n2_; clear ho hb hg hat))
                            go_roundg k2
                            case measure => have := HK1.out; have := HK2.out; omega
                            case rel => exact ⟨(y201), (wrap64 (x7_2 + 1)), (by first | rfl | (simp; done) | (simp [*]; done)), H', ⟨by have := HK1.out; have := HK2.out; omega⟩, ⟨by (with_reducible repeat (first | apply Kd.R_alloc | apply Kd.R_drewN | apply Kd.R_drew)); exact HO203.out⟩, ⟨by (with_reducible repeat (first | refine blk_drewN ?_ _ | refine blk_drew ?_ | refine blk_alloc ?_ _)); exact BK196.out⟩, ⟨by repeat (first | (with_reducible first | exact HB.out | apply below_alloc | apply pw_below_drewN | apply below_drew1 | refine below_set ?_ GE196.out) | exact HB.out)⟩⟩
                          · rw [if_neg c23] at H
                            exact absurd H (by simp)
                        · rw [if_neg c21] at H
                          exact absurd H (by simp)
                      · rw [if_neg c19] at H
                        exact absurd H (by simp)
                    · rw [if_neg c18] at H
                      exact absurd H (by simp)
                  · rw [if_neg c17] at H
                    have c17b0 : decide (x7_2 < (x4_1.length : Int)) = false := decide_eq_false c17
                    clear c17
                    have H' := Aside0.mk H
                    clear H
                    go_wp2
                    go_roundg k2
                    case measure => have := HK1.out; have := HK2.out; omega
                    case rel => exact ⟨(x4_2), (wrap64 (x5_1 + 1)), (by first | rfl | (simp; done) | (simp [*]; done)), H', ⟨by have := HK1.out; have := HK2.out; omega⟩, ⟨by (with_reducible repeat (first | apply Kd.R_alloc | apply Kd.R_drewN | apply Kd.R_drew)); exact HO_4.out⟩, ⟨by (with_reducible repeat (first | refine blk_drewN ?_ _ | refine blk_drew ?_ | refine blk_alloc ?_ _)); exact BK196.out⟩, ⟨by repeat (first | (with_reducible first | exact HB.out | apply below_alloc | apply pw_below_drewN | apply below_drew1 | refine below_set ?_ GE196.out) | exact HB.out)⟩⟩
        · rw [if_neg c8] at H
          exact absurd H (by simp)
      · rw [if_neg c6] at H
        have c6b0 : decide (x5_1 < 64) = false := decide_eq_false c6
        clear c6
        simp only [Option.some.injEq, Prod.mk.injEq] at H
        obtain ⟨rfl, rfl⟩ := H
        go_wp2
        go_ret2
        exact ⟨_, by first | rfl | (simp [errW_none, errW_some] <;> rfl) | (simp [*, errW_none, errW_some] <;> rfl), by (with_reducible repeat (first | apply Kd.R_alloc | apply Kd.R_drewN | apply Kd.R_drew)); exact HO_4.out, by repeat (first | (with_reducible first | exact HB.out | apply below_alloc | apply pw_below_drewN | apply below_drew1 | refine below_set ?_ GE196.out) | exact HB.out)⟩

/-! ### posternref14_Images: function 21 -/
mutual
def posternref14_Images.l0 : Nat → Int → Int → List Int → List Int → List Int → Int → Int → Option (List Int)
  | 0, _, _, _, _, _, _, _ => none
  | k + 1, x0, x1, x3, x9, x16, x17, x18 => if x18 < x17 then (if 0 ≤ x18 then (if x18 < (x16.length : Int) then (posternref14_Images.l1 k x0 x1 x3 x9 (rd x16 x18) x16 x17 x18 x3 (x3.length : Int) 0) else (none)) else (none)) else (some x9)
def posternref14_Images.l1 : Nat → Int → Int → List Int → List Int → Int → List Int → Int → Int → List Int → Int → Int → Option (List Int)
  | 0, _, _, _, _, _, _, _, _, _, _, _ => none
  | k + 1, x0, x1, x3, x9, x11, x16, x17, x18, x22, x23, x24 => if x24 < x23 then (if 0 ≤ x24 then (if x24 < (x22.length : Int) then ((posternref05_Do.f k x0 x1 x11 (rd x22 x24)).bind fun bt206 => (if x9.length < 17592186044416 then (posternref14_Images.l1 k x0 x1 x3 (x9 ++ [bt206.1]) x11 x16 x17 x18 x22 x23 (wrap64 (x24 + 1))) else (none))) else (none)) else (none)) else (posternref14_Images.l0 k x0 x1 x3 x9 x16 x17 (wrap64 (x18 + 1)))
end
def posternref14_Images.f (k : Nat) (a0 : Int) (a1 : Int) (l2 : List Int) (l3 : List Int) : Option (List Int) := posternref14_Images.l0 k a0 a1 l3 ([] : List Int) l2 (l2.length : Int) 0
theorem posternref14_Images.mono_l : ∀ k, (∀ y0 y1 y2 y3 y4 y5 y6, LeO (posternref14_Images.l0 k y0 y1 y2 y3 y4 y5 y6) (posternref14_Images.l0 (k + 1) y0 y1 y2 y3 y4 y5 y6)) ∧ (∀ y0 y1 y2 y3 y4 y5 y6 y7 y8 y9 y10, LeO (posternref14_Images.l1 k y0 y1 y2 y3 y4 y5 y6 y7 y8 y9 y10) (posternref14_Images.l1 (k + 1) y0 y1 y2 y3 y4 y5 y6 y7 y8 y9 y10))
  | 0 => ⟨fun _ _ _ _ _ _ _ r h => by simp [posternref14_Images.l0] at h, fun _ _ _ _ _ _ _ _ _ _ _ r h => by simp [posternref14_Images.l1] at h⟩
  | k + 1 => by
    obtain ⟨ih0, ih1⟩ := posternref14_Images.mono_l k
    refine ⟨?_, ?_⟩
    · intro y0 y1 y2 y3 y4 y5 y6
      unfold posternref14_Images.l0
      repeat' first
      | (with_reducible exact ih0 _ _ _ _ _ _ _)
      | (with_reducible exact ih1 _ _ _ _ _ _ _ _ _ _ _)
      | (with_reducible exact posternref05_Do.mono _ _ _ _ _)
      | (with_reducible exact LeO.refl _)
      | (with_reducible exact LeO.none _)
      | (with_reducible refine LeO.ite ?_ ?_)
      | (with_reducible refine LeO.bind ?_ (fun _ => ?_))
      | exact ih0 _ _ _ _ _ _ _
      | exact ih1 _ _ _ _ _ _ _ _ _ _ _
      | exact posternref05_Do.mono _ _ _ _ _
      | exact LeO.none _
      | refine LeO.ite ?_ ?_
      | refine LeO.bind ?_ (fun _ => ?_)
    · intro y0 y1 y2 y3 y4 y5 y6 y7 y8 y9 y10
      unfold posternref14_Images.l1
      repeat' first
      | (with_reducible exact ih0 _ _ _ _ _ _ _)
      | (with_reducible exact ih1 _ _ _ _ _ _ _ _ _ _ _)
      | (with_reducible exact posternref05_Do.mono _ _ _ _ _)
      | (with_reducible exact LeO.refl _)
      | (with_reducible exact LeO.none _)
      | (with_reducible refine LeO.ite ?_ ?_)
      | (with_reducible refine LeO.bind ?_ (fun _ => ?_))
      | exact ih0 _ _ _ _ _ _ _
      | exact ih1 _ _ _ _ _ _ _ _ _ _ _
      | exact posternref05_Do.mono _ _ _ _ _
      | exact LeO.none _
      | refine LeO.ite ?_ ?_
      | refine LeO.bind ?_ (fun _ => ?_)
theorem posternref14_Images.mono : ∀ a0 a1 a2 a3 k, LeO (posternref14_Images.f k a0 a1 a2 a3) (posternref14_Images.f (k + 1) a0 a1 a2 a3) := by
  intro a0 a1 a2 a3 k
  obtain ⟨ih0, ih1⟩ := posternref14_Images.mono_l k
  unfold posternref14_Images.f
  repeat' first
      | (with_reducible exact ih0 _ _ _ _ _ _ _)
      | (with_reducible exact ih1 _ _ _ _ _ _ _ _ _ _ _)
      | (with_reducible exact posternref05_Do.mono _ _ _ _ _)
      | (with_reducible exact LeO.refl _)
      | (with_reducible exact LeO.none _)
      | (with_reducible refine LeO.ite ?_ ?_)
      | (with_reducible refine LeO.bind ?_ (fun _ => ?_))
      | exact ih0 _ _ _ _ _ _ _
      | exact ih1 _ _ _ _ _ _ _ _ _ _ _
      | exact posternref05_Do.mono _ _ _ _ _
      | exact LeO.none _
      | refine LeO.ite ?_ ?_
      | refine LeO.bind ?_ (fun _ => ?_)
set_option maxHeartbeats 8000000 in
set_option maxRecDepth 100000 in
theorem posternref14_Images.calls (k : Nat) (a0 : Int) (a1 : Int) (A2 : Option Addr) (c2 : Nat) (l2 : List Int) (A3 : Option Addr) (c3 : Nat) (l3 : List Int) (r : List Int) (w : World) (hr2 : Kd.C (Kd.int .u64) w A2 l2.length l2) (hc2 : l2.length ≤ c2) (hr3 : Kd.C (Kd.int .u64) w A3 l3.length l3) (hc3 : l3.length ≤ c3) (h : posternref14_Images.f k a0 a1 l2 l3 = some r) :
    Calls Try.prog 21 #[.int .i64 a0, .int .i64 a1, .slice A2 l2.length c2, .slice A3 l3.length c3] w fun e w' => ∃ v0_ : Value, e = .returned (v0_) ∧ Kd.R (Kd.int .u64) 22 w' w.heap.size (fun _ => True) v0_ r ∧ Below w.heap.size w w' := by
  have HR2 := Aside0.mk hr2
  have HC2 := Aside0.mk hc2
  clear hr2 hc2
  have HR3 := Aside0.mk hr3
  have HC3 := Aside0.mk hc3
  clear hr3 hc3
  have HB := Aside0.mk (Below.refl w.heap.size w)
  have H : (posternref14_Images.l0 k a0 a1 l3 ([] : List Int) l2 (l2.length : Int) 0) = some r := h
  clear h
  have H' := Aside0.mk H
  clear H
  go_enter Try.func21, Try.ntmps21
  go_wp2
  go_loopg [9, 18] k (fun kq v9 v18 w' => ∃ (x9_1 : List Int) (x18_1 : Int), v18 = .int .i64 x18_1 ∧ Aside0 (posternref14_Images.l0 kq a0 a1 l3 x9_1 l2 (l2.length : Int) x18_1 = some r) ∧ Aside0 (kq ≤ k) ∧ Aside0 (Kd.R (Kd.int .u64) 22 w' w.heap.size (fun _ => True) v9 x9_1) ∧ Aside0 (Below w.heap.size w w'))
  case atStart => exact ⟨(([] : List Int)), (0), (by first | rfl | (simp; done) | (simp [*]; done)), H', ⟨Nat.le_refl _⟩, ⟨by first | exact Kd.R_nil _ _ _ _ _ | exact Kd.N_nil _ _ _ _ _ | exact Kd.V_nil _ _ _ _ _ | exact Kd.Q_nil _ _ _ _ _ | exact Kd.S_nil _ _ _ _ _⟩, ⟨by repeat (first | (with_reducible first | exact HB.out | apply below_alloc | apply pw_below_drewN | apply below_drew1) | exact HB.out)⟩⟩
  case round =>
    clear H'
    try clear c2
    try clear p2
    try clear c3
    obtain ⟨x9_1, x18_1, rfl, HA, HK1, HO_9, HB⟩ := hrel
    cases gk with
    | zero => exact absurd HA.out (by simp [posternref14_Images.l0])
    | succ k1 =>
      have H := HA.out
      clear HA
      simp only [posternref14_Images.l0] at H
      by_cases c5 : x18_1 < (l2.length : Int)
      · rw [if_pos c5] at H
        have c5b0 : decide (x18_1 < (l2.length : Int)) = true := decide_eq_true c5
        clear c5
        by_cases c6 : 0 ≤ x18_1
        · rw [if_pos c6] at H
          have c6b0 : decide (0 ≤ x18_1) = true := decide_eq_true c6
          clear c6
          by_cases c7 : x18_1 < (l2.length : Int)
          · rw [if_pos c7] at H
            have c7b0 : decide (x18_1 < (l2.length : Int)) = true := decide_eq_true c7
            clear c7
            have H' := Aside0.mk H
            clear H
            have p204 : 0 ≤ (x18_1 : Int) := of_decide_eq_true (by first | (with_reducible assumption) | assumption)
            have q204 : x18_1 < (l2.length : Int) := of_decide_eq_true (by first | (with_reducible assumption) | assumption)
            obtain ⟨ad204, e204, hx204_0⟩ := Kd.at_int HR2.out x18_1 p204 q204
            cases e204
            replace hx204_0 := (HB.out.cell (World.block_lt_of_cell? w _ hx204_0)).trans hx204_0
            replace p204 := eq_true p204
            replace q204 := eq_true q204
            go_wp2
            go_loopg [9, 24] k1 (fun kq v9 v24 w' => ∃ (x9_2 : List Int) (x24_2 : Int), v24 = .int .i64 x24_2 ∧ Aside0 (posternref14_Images.l1 kq a0 a1 l3 x9_2 (rd l2 x18_1) l2 (l2.length : Int) x18_1 l3 (l3.length : Int) x24_2 = some r) ∧ Aside0 (kq ≤ k1) ∧ Aside0 (Kd.R (Kd.int .u64) 22 w' w.heap.size (fun _ => True) v9 x9_2) ∧ Aside0 (Below w.heap.size w w'))
            case atStart => exact ⟨(x9_1), (0), (by first | rfl | (simp; done) | (simp [*]; done)), H', ⟨Nat.le_refl _⟩, ⟨by (with_reducible repeat (first | apply Kd.R_alloc | apply Kd.R_drewN | apply Kd.R_drew)); exact HO_9.out⟩, ⟨by repeat (first | (with_reducible first | exact HB.out | apply below_alloc | apply pw_below_drewN | apply below_drew1) | exact HB.out)⟩⟩
            case round =>
              clear H'
              try clear c2
              try clear p2
              try clear q2
              try clear hx2
              try clear c3
              try clear c5
              try clear c5b0
              try clear c6
              try clear c6b0
              try clear c7
              try clear c7b0
              try clear hx204_0
              try clear p2
              try clear p204
              try clear q204
              obtain ⟨x9_2, x24_2, rfl, HA, HK2, HO_9, HB⟩ := hrel
              cases gk with
              | zero => exact absurd HA.out (by simp [posternref14_Images.l1])
              | succ k2 =>
                have H := HA.out
                clear HA
                simp only [posternref14_Images.l1] at H
                by_cases c8 : x24_2 < (l3.length : Int)
                · rw [if_pos c8] at H
                  have c8b0 : decide (x24_2 < (l3.length : Int)) = true := decide_eq_true c8
                  clear c8
                  by_cases c9 : 0 ≤ x24_2
                  · rw [if_pos c9] at H
                    have c9b0 : decide (0 ≤ x24_2) = true := decide_eq_true c9
                    clear c9
                    by_cases c10 : x24_2 < (l3.length : Int)
                    · rw [if_pos c10] at H
                      have c10b0 : decide (x24_2 < (l3.length : Int)) = true := decide_eq_true c10
                      clear c10
                      replace H := Option.bind_eq_some_iff.mp H
                      obtain ⟨⟨t206, t207⟩, A110, H⟩ := H
                      replace H : (if x9_2.length < 17592186044416 then (posternref14_Images.l1 k2 a0 a1 l3 (x9_2 ++ [t206]) (rd l2 x18_1) l2 (l2.length : Int) x18_1 l3 (l3.length : Int) (wrap64 (x24_2 + 1))) else (none)) = some r := H
                      have A11 := Aside0.mk A110
                      clear A110
                      by_cases c12 : x9_2.length < 17592186044416
                      · rw [if_pos c12] at H
                        have LMc12 := Aside0.mk c12
                        clear c12
                        obtain ⟨y208, hy208⟩ : ∃ y_ : List Int, y_ = (x9_2 ++ [t206]) := ⟨_, rfl⟩
                        replace H : (posternref14_Images.l1 k2 a0 a1 l3 y208 (rd l2 x18_1) l2 (l2.length : Int) x18_1 l3 (l3.length : Int) (wrap64 (x24_2 + 1))) = some r := by first | (rw [hy208]; with_reducible exact H) | (have H2_ := (Option.bind_some _ _).symm.trans H; rw [hy208]; with_reducible exact H2_) | (have H2_ := (Option.bind_some _ _).symm.trans H; with_reducible exact H2_) | with_reducible exact H | (rw [hy208]; exact H) | exact H
                        have Ny208 := Aside0.mk hy208
                        clear hy208
                        have H' := Aside0.mk H
                        clear H
                        have p205 : 0 ≤ (x24_2 : Int) := of_decide_eq_true (by first | (with_reducible assumption) | assumption)
                        have q205 : x24_2 < (l3.length : Int) := of_decide_eq_true (by first | (with_reducible assumption) | assumption)
                        obtain ⟨ad205, e205, hx205_0⟩ := Kd.at_int HR3.out x24_2 p205 q205
                        cases e205
                        replace hx205_0 := (HB.out.cell (World.block_lt_of_cell? w _ hx205_0)).trans hx205_0
                        replace p205 := eq_true p205
                        replace q205 := eq_true q205
                        go_wp2_with (first | ((with_reducible refine gate_callee (f := 15) rfl ?_); refine goesL_ (some 33) rfl rfl Try.func15 (by kernel_rfl) rfl #[.int .i64 a0, .int .i64 a1, .int .u64 (rd l2 x18_1), .int .u64 (rd l3 x24_2)] rfl (by (try simp only [List.map_toArray, List.map_cons, List.map_nil]); first | done | rfl | (simp only [List.length_drop, List.length_take]; rfl)) ?_; (with_reducible refine (posternref05_Do.calls k2 a0 a1 (rd l2 x18_1) (rd l3 x24_2) t206 t207 _ A11.out).mono ?_); rintro e w' ⟨rfl, ⟨nd, rfl⟩⟩; refine ⟨_, rfl, ?_⟩) | ((with_reducible refine gate_builtin (b := .append) (xs := #[.tmp 36, .tmp 38]) rfl ?_); at_builtin; refine Kd.R_append (Kd.int .u64) (w0 := w) w.heap.size rfl (.tmp 36) (.tmp 38) 40 22 (.int .u64 0) 8 rfl Try.underlying40 info22 rfl (by decide) (by omega) u9 x9_2 t206 [.int .u64 t206] (fun _ => True) (fun _ => False) rfl rfl ?aP (fun _ hk => hk.elim) ?aF ?aO ?aB ?aS ?aL ?_; (case aP => exact rfl); (case aB => exact (by repeat (first | (with_reducible first | exact HB.out | apply below_alloc | apply pw_below_drewN | apply below_drew1) | exact HB.out))); (case aF => exact (fun _ _ => trivial)); (case aO => exact (by (with_reducible repeat (first | apply Kd.R_alloc | apply Kd.R_drewN | apply Kd.R_drew)); exact HO_9.out)); (case aS => exact (below_size (by repeat (first | (with_reducible first | exact HB.out | apply below_alloc | apply pw_below_drewN | apply below_drew1) | exact HB.out)))); (case aL => have := LMc12.out; omega); intro v209 w13 ho hb hg hat; rw [← Ny208.out] at ho; have n0_ := Aside0.mk (hb); have n1_ := Aside0.mk (ho); clear HB; clear HO_9; have HB := n0_; have HO210 := n1_; clear n0_ n1_; clear ho hb hg hat))
                        go_roundg k2
                        case measure => have := HK1.out; have := HK2.out; omega
                        case rel => exact ⟨(y208), (wrap64 (x24_2 + 1)), (by first | rfl | (simp; done) | (simp [*]; done)), H', ⟨by have := HK1.out; have := HK2.out; omega⟩, ⟨by (with_reducible repeat (first | apply Kd.R_alloc | apply Kd.R_drewN | apply Kd.R_drew)); exact HO210.out⟩, ⟨by repeat (first | (with_reducible first | exact HB.out | apply below_alloc | apply pw_below_drewN | apply below_drew1) | exact HB.out)⟩⟩
                      · rw [if_neg c12] at H
                        exact absurd H (by simp)
                    · rw [if_neg c10] at H
                      exact absurd H (by simp)
                  · rw [if_neg c9] at H
                    exact absurd H (by simp)
                · rw [if_neg c8] at H
                  have c8b0 : decide (x24_2 < (l3.length : Int)) = false := decide_eq_false c8
                  clear c8
                  have H' := Aside0.mk H
                  clear H
                  go_wp2
                  go_roundg k2
                  case measure => have := HK1.out; have := HK2.out; omega
                  case rel => exact ⟨(x9_2), (wrap64 (x18_1 + 1)), (by first | rfl | (simp; done) | (simp [*]; done)), H', ⟨by have := HK1.out; have := HK2.out; omega⟩, ⟨by (with_reducible repeat (first | apply Kd.R_alloc | apply Kd.R_drewN | apply Kd.R_drew)); exact HO_9.out⟩, ⟨by repeat (first | (with_reducible first | exact HB.out | apply below_alloc | apply pw_below_drewN | apply below_drew1) | exact HB.out)⟩⟩
          · rw [if_neg c7] at H
            exact absurd H (by simp)
        · rw [if_neg c6] at H
          exact absurd H (by simp)
      · rw [if_neg c5] at H
        have c5b0 : decide (x18_1 < (l2.length : Int)) = false := decide_eq_false c5
        clear c5
        obtain rfl := Option.some.inj H
        go_wp2
        go_ret
        exact ⟨_, by first | rfl | (simp [errW_none, errW_some] <;> rfl) | (simp [*, errW_none, errW_some] <;> rfl), by (with_reducible repeat (first | apply Kd.R_alloc | apply Kd.R_drewN | apply Kd.R_drew)); exact HO_9.out, by repeat (first | (with_reducible first | exact HB.out | apply below_alloc | apply pw_below_drewN | apply below_drew1) | exact HB.out)⟩

/-! ### posternref14_Best: function 22 -/
def posternref14_Best.l0 : Nat → Int → Int → List Int → Int → Int → Option (Int × Int)
  | 0, _, _, _, _, _ => none
  | k + 1, x3, x4, x7, x8, x9 => if x9 < x8 then (if 0 ≤ x9 then (if x9 < (x7.length : Int) then (posternref14_Best.l0 k (Go.bits .and .u64 x3 (rd x7 x9)) (Go.bits .and .u64 x4 (Go.bits .xor .u64 18446744073709551615 (rd x7 x9))) x7 x8 (wrap64 (x9 + 1))) else (none)) else (none)) else (some (x3, Go.bits .and .u64 (Go.bits .xor .u64 18446744073709551615 x3) (Go.bits .xor .u64 18446744073709551615 x4)))
def posternref14_Best.f (k : Nat) (l0 : List Int) : Option (Int × Int) := posternref14_Best.l0 k 18446744073709551615 18446744073709551615 l0 (l0.length : Int) 0
theorem posternref14_Best.mono_l : ∀ k, (∀ y0 y1 y2 y3 y4, LeO (posternref14_Best.l0 k y0 y1 y2 y3 y4) (posternref14_Best.l0 (k + 1) y0 y1 y2 y3 y4))
  | 0 => fun _ _ _ _ _ r h => by simp [posternref14_Best.l0] at h
  | k + 1 => by
    have ih0 := posternref14_Best.mono_l k
    · intro y0 y1 y2 y3 y4
      unfold posternref14_Best.l0
      repeat' first
      | (with_reducible exact ih0 _ _ _ _ _)
      | (with_reducible exact LeO.refl _)
      | (with_reducible exact LeO.none _)
      | (with_reducible refine LeO.ite ?_ ?_)
      | (with_reducible refine LeO.bind ?_ (fun _ => ?_))
      | exact ih0 _ _ _ _ _
      | exact LeO.none _
      | refine LeO.ite ?_ ?_
      | refine LeO.bind ?_ (fun _ => ?_)
theorem posternref14_Best.mono : ∀ a0 k, LeO (posternref14_Best.f k a0) (posternref14_Best.f (k + 1) a0) := by
  intro a0 k
  have ih0 := posternref14_Best.mono_l k
  unfold posternref14_Best.f
  repeat' first
      | (with_reducible exact ih0 _ _ _ _ _)
      | (with_reducible exact LeO.refl _)
      | (with_reducible exact LeO.none _)
      | (with_reducible refine LeO.ite ?_ ?_)
      | (with_reducible refine LeO.bind ?_ (fun _ => ?_))
      | exact ih0 _ _ _ _ _
      | exact LeO.none _
      | refine LeO.ite ?_ ?_
      | refine LeO.bind ?_ (fun _ => ?_)
set_option maxHeartbeats 8000000 in
set_option maxRecDepth 100000 in
theorem posternref14_Best.calls (k : Nat) (A0 : Option Addr) (c0 : Nat) (l0 : List Int) (r1 : Int) (r2 : Int) (w : World) (hr0 : Kd.C (Kd.int .u64) w A0 l0.length l0) (hc0 : l0.length ≤ c0) (h : posternref14_Best.f k l0 = some (r1, r2)) :
    Calls Try.prog 22 #[.slice A0 l0.length c0] w fun e w' => e = .returned (.agg #[.int .u64 r1, .int .u64 r2]) ∧ Below w.heap.size w w' := by
  have hu24 := Try.underlying24
  have HR0 := Aside0.mk hr0
  have HC0 := Aside0.mk hc0
  clear hr0 hc0
  have HB := Aside0.mk (Below.refl w.heap.size w)
  have H : (posternref14_Best.l0 k 18446744073709551615 18446744073709551615 l0 (l0.length : Int) 0) = some (r1, r2) := h
  clear h
  have H' := Aside0.mk H
  clear H
  go_enter Try.func22, Try.ntmps22
  go_wp2_with (first | ((with_reducible refine gate_dst (N := 2) rfl ?_); refine box_event ?hg (N := 2) ?hd (cs := #[.int .u64 0, .int .u64 0]) (t := 24) ?hr ?_; (case hd => rfl); (case hg => rfl); (case hr => first | (go_simp; done) | (go_simp; rfl)); intro gb211 hg w2 hbox hb; have n0_ := Aside0.mk (below_step (by repeat (first | (with_reducible first | exact HB.out | apply below_alloc | apply pw_below_drewN | apply below_drew1) | exact HB.out)) hb); have n1_ := Aside0.mk (hbox); have n2_ := Aside0.mk ((by rw [hg]; exact (below_size (by repeat (first | (with_reducible first | exact HB.out | apply below_alloc | apply pw_below_drewN | apply below_drew1) | exact HB.out))) : w.heap.size ≤ gb211)); have n3_ := Aside0.mk ((by rw [hg]; exact (below_size (by repeat (first | (with_reducible first | exact HB.out | apply below_alloc | apply pw_below_drewN | apply below_drew1) | exact HB.out))) : w.heap.size ≤ gb211)); clear HB; have HB := n0_; have BK211 := n1_; have GW211 := n2_; have GE211 := n3_; clear n0_ n1_ n2_ n3_; clear hb hbox hg))
  go_loopg [3, 4, 9] k (fun kq v3 v4 v9 w' => ∃ (x3_1 : Int) (x4_1 : Int) (x9_1 : Int), v3 = .int .u64 x3_1 ∧ v4 = .int .u64 x4_1 ∧ v9 = .int .i64 x9_1 ∧ Aside0 (posternref14_Best.l0 kq x3_1 x4_1 l0 (l0.length : Int) x9_1 = some (r1, r2)) ∧ Aside0 (kq ≤ k) ∧ Aside0 (w'.heap[gb211]? = some (.cells #[.int .u64 0, .int .u64 0] 24 (0, 0))) ∧ Aside0 (Below w.heap.size w w'))
  case atStart => exact ⟨(18446744073709551615), (18446744073709551615), (0), (by first | rfl | (simp; done) | (simp [*]; done)), (by first | rfl | (simp; done) | (simp [*]; done)), (by first | rfl | (simp; done) | (simp [*]; done)), H', ⟨Nat.le_refl _⟩, ⟨by (with_reducible repeat (first | refine blk_drewN ?_ _ | refine blk_drew ?_ | refine blk_alloc ?_ _)); exact BK211.out⟩, ⟨by repeat (first | (with_reducible first | exact HB.out | apply below_alloc | apply pw_below_drewN | apply below_drew1 | refine below_set ?_ GE211.out) | exact HB.out)⟩⟩
  case round =>
    clear H'
    try clear c2
    try clear p2
    obtain ⟨x3_1, x4_1, x9_1, rfl, rfl, rfl, HA, HK1, BK211, HB⟩ := hrel
    cases gk with
    | zero => exact absurd HA.out (by simp [posternref14_Best.l0])
    | succ k1 =>
      have H := HA.out
      clear HA
      simp only [posternref14_Best.l0] at H
      by_cases c3 : x9_1 < (l0.length : Int)
      · rw [if_pos c3] at H
        have c3b0 : decide (x9_1 < (l0.length : Int)) = true := decide_eq_true c3
        clear c3
        by_cases c4 : 0 ≤ x9_1
        · rw [if_pos c4] at H
          have c4b0 : decide (0 ≤ x9_1) = true := decide_eq_true c4
          clear c4
          by_cases c5 : x9_1 < (l0.length : Int)
          · rw [if_pos c5] at H
            have c5b0 : decide (x9_1 < (l0.length : Int)) = true := decide_eq_true c5
            clear c5
            have H' := Aside0.mk H
            clear H
            have p212 : 0 ≤ (x9_1 : Int) := of_decide_eq_true (by first | (with_reducible assumption) | assumption)
            have q212 : x9_1 < (l0.length : Int) := of_decide_eq_true (by first | (with_reducible assumption) | assumption)
            obtain ⟨ad212, e212, hx212_0⟩ := Kd.at_int HR0.out x9_1 p212 q212
            cases e212
            replace hx212_0 := (HB.out.cell (World.block_lt_of_cell? w _ hx212_0)).trans hx212_0
            replace p212 := eq_true p212
            replace q212 := eq_true q212
            go_wp2
            go_roundg k1
            case measure => have := HK1.out; omega
            case rel => exact ⟨(Go.bits .and .u64 x3_1 (rd l0 x9_1)), (Go.bits .and .u64 x4_1 (Go.bits .xor .u64 18446744073709551615 (rd l0 x9_1))), (wrap64 (x9_1 + 1)), (by first | rfl | (simp; done) | (simp [*]; done)), (by first | rfl | (simp; done) | (simp [*]; done)), (by first | rfl | (simp; done) | (simp [*]; done)), H', ⟨by have := HK1.out; omega⟩, ⟨by (with_reducible repeat (first | refine blk_drewN ?_ _ | refine blk_drew ?_ | refine blk_alloc ?_ _)); exact BK211.out⟩, ⟨by repeat (first | (with_reducible first | exact HB.out | apply below_alloc | apply pw_below_drewN | apply below_drew1 | refine below_set ?_ GE211.out) | exact HB.out)⟩⟩
          · rw [if_neg c5] at H
            exact absurd H (by simp)
        · rw [if_neg c4] at H
          exact absurd H (by simp)
      · rw [if_neg c3] at H
        have c3b0 : decide (x9_1 < (l0.length : Int)) = false := decide_eq_false c3
        clear c3
        simp only [Option.some.injEq, Prod.mk.injEq] at H
        obtain ⟨rfl, rfl⟩ := H
        have hcz6_0 : wr.cell? ⟨gb211, 0, none⟩ = some (.int .u64 0) := (blk_cell BK211.out 0).trans rfl
        have hcz6_1 : wr.cell? ⟨gb211, 1, none⟩ = some (.int .u64 0) := (blk_cell BK211.out 1).trans rfl
        have hfz6_0 := blk_frozen BK211.out 0
        have hfz6_1 := blk_frozen BK211.out 1
        go_wp2
        refine bodyPost_ret (results_cell_row rfl _ _ gb211 24 #[.int .u64 x3_1, .int .u64 (Go.bits .and .u64 (Go.bits .xor .u64 18446744073709551615 x3_1) (Go.bits .xor .u64 18446744073709551615 x4_1))] (0, 0) _ rfl (by (with_reducible repeat (first | refine blk_drewN ?_ _ | refine blk_drew ?_ | refine blk_alloc ?_ _)); refine blk_put (cs := #[.int .u64 x3_1, .int .u64 0]) ?_ 1 _ rfl; (with_reducible repeat (first | refine blk_drewN ?_ _ | refine blk_drew ?_ | refine blk_alloc ?_ _)); refine blk_put (cs := #[.int .u64 0, .int .u64 0]) ?_ 0 _ rfl; (with_reducible repeat (first | refine blk_drewN ?_ _ | refine blk_drew ?_ | refine blk_alloc ?_ _)); exact BK211.out) Try.underlying24 rfl (by kernel_rfl)) rfl ?_
        exact ⟨by first | rfl | (simp [errW_none, errW_some] <;> rfl) | (simp [*, errW_none, errW_some] <;> rfl), by repeat (first | (with_reducible first | exact HB.out | apply below_alloc | apply pw_below_drewN | apply below_drew1 | refine below_set ?_ GE211.out) | exact HB.out)⟩

end Go.Proofs.Ytladlljnpmpdpaa.PTnumBest
