-- Written by a program of this session (a variant of the print), for this claim. Lean checks it.
import Derived.Test.YtladlljnpmpdpaaPTnumBestx0
import Derived.Test.YtladlljnpmpdpaaPTnumBestx2
namespace Go.Proofs.Ytladlljnpmpdpaa.PTnumBest
open Go.RowKit Go.Proofs.YtladlljnpmpdpaaW.PrintWords Go.Proofs.YtladlljnpmpdpaaW.PrintLast Go.Proofs.YtladlljnpmpdpaaW.PrintMore
attribute [local go_sem] max2_int min2_int max_two min_two max_three min_three max_four min_four   -- for this text's walks alone
attribute [local go_sem high] Go.Proofs.Ytladlljnpmpdpaa.NotLaw.not_u64 Go.Proofs.Ytladlljnpmpdpaa.NotLaw.not_u32 Go.Proofs.Ytladlljnpmpdpaa.NotLaw.not_u16 Go.Proofs.Ytladlljnpmpdpaa.NotLaw.not_u8
set_option linter.unusedVariables false
set_option linter.unusedSimpArgs false

/-! ### tnum_do: function 45 -/
def tnum_do.j0 : Nat → Int → Int → Int → Int → Int → Int → Option (Int × Int)
  | 0, _, _, _, _, _, _ => none
  | k + 1, x0, x9, x140000, x140001, x141000, x141001 => if x0 = 0 then ((tnum_add.f x140000 x140001 x141000 x141001).bind fun bt142 => (some (bt142.1, bt142.2))) else (if x0 = 16 then ((tnum_sub.f x140000 x140001 x141000 x141001).bind fun bt144 => (some (bt144.1, bt144.2))) else (if x0 = 32 then ((tnum_mul.f k x140000 x140001 x141000 x141001).bind fun bt146 => (some (bt146.1, bt146.2))) else (if x0 = 64 then (some (Go.bits .or .u64 x140000 x141000, Go.bits .andNot .u64 (Go.bits .or .u64 x140001 x141001) (Go.bits .or .u64 x140000 x141000))) else (if x0 = 80 then (some (Go.bits .and .u64 x140000 x141000, Go.bits .andNot .u64 (Go.bits .and .u64 (Go.bits .or .u64 x140000 x140001) (Go.bits .or .u64 x141000 x141001)) (Go.bits .and .u64 x140000 x141000))) else (if x0 = 96 then (if x141001 = 0 then ((tnum_shift.f x140000 x140001 x9).bind fun bt148 => (some (bt148.1, bt148.2))) else ((tnum_Any.f).bind fun bt150 => (some (bt150.1, bt150.2)))) else (if x0 = 112 then (if x141001 = 0 then ((tnum_shift.f x140000 x140001 (wrap64 (-x9))).bind fun bt152 => (some (bt152.1, bt152.2))) else ((tnum_Any.f).bind fun bt154 => (some (bt154.1, bt154.2)))) else (if x0 = 128 then ((tnum_sub.f 0 0 x140000 x140001).bind fun bt156 => (some (bt156.1, bt156.2))) else (if x0 = 160 then (some (Go.bits .andNot .u64 (Go.bits .xor .u64 x140000 x141000) (Go.bits .or .u64 x140001 x141001), Go.bits .or .u64 x140001 x141001)) else (if x0 = 176 then (some (x141000, x141001)) else ((tnum_Any.f).bind fun bt158 => (some (bt158.1, bt158.2))))))))))))
def tnum_do.f (k : Nat) (a0 : Int) (a1 : Bool) (a2_0 : Int) (a2_1 : Int) (a3_0 : Int) (a3_1 : Int) : Option (Int × Int) := if a1 = true then (tnum_do.j0 k a0 (wrap64 (Go.bits .and .u64 a3_0 63)) a2_0 a2_1 a3_0 a3_1) else (tnum_do.j0 k a0 (wrap64 (Go.bits .and .u64 a3_0 31)) a2_0 a2_1 a3_0 a3_1)
theorem tnum_do.mono_l : ∀ k, (∀ y0 y1 y2 y3 y4 y5, LeO (tnum_do.j0 k y0 y1 y2 y3 y4 y5) (tnum_do.j0 (k + 1) y0 y1 y2 y3 y4 y5))
  | 0 => fun _ _ _ _ _ _ r h => by simp [tnum_do.j0] at h
  | k + 1 => by
    have ih0 := tnum_do.mono_l k
    · intro y0 y1 y2 y3 y4 y5
      unfold tnum_do.j0
      repeat' first
      | (with_reducible exact ih0 _ _ _ _ _ _)
      | (with_reducible exact tnum_mul.mono _ _ _ _ _)
      | (with_reducible exact LeO.refl _)
      | (with_reducible exact LeO.none _)
      | (with_reducible refine LeO.ite ?_ ?_)
      | (with_reducible refine LeO.bind ?_ (fun _ => ?_))
      | exact ih0 _ _ _ _ _ _
      | exact tnum_mul.mono _ _ _ _ _
      | exact LeO.none _
      | refine LeO.ite ?_ ?_
      | refine LeO.bind ?_ (fun _ => ?_)
theorem tnum_do.mono : ∀ a0 a1 a2 a3 a4 a5 k, LeO (tnum_do.f k a0 a1 a2 a3 a4 a5) (tnum_do.f (k + 1) a0 a1 a2 a3 a4 a5) := by
  intro a0 a1 a2 a3 a4 a5 k
  have ih0 := tnum_do.mono_l k
  unfold tnum_do.f
  repeat' first
      | (with_reducible exact ih0 _ _ _ _ _ _)
      | (with_reducible exact tnum_mul.mono _ _ _ _ _)
      | (with_reducible exact LeO.refl _)
      | (with_reducible exact LeO.none _)
      | (with_reducible refine LeO.ite ?_ ?_)
      | (with_reducible refine LeO.bind ?_ (fun _ => ?_))
      | exact ih0 _ _ _ _ _ _
      | exact tnum_mul.mono _ _ _ _ _
      | exact LeO.none _
      | refine LeO.ite ?_ ?_
      | refine LeO.bind ?_ (fun _ => ?_)
set_option maxHeartbeats 8000000 in
set_option maxRecDepth 100000 in
theorem tnum_do.calls (k : Nat) (a0 : Int) (a1 : Bool) (a2_0 : Int) (a2_1 : Int) (a3_0 : Int) (a3_1 : Int) (r1 : Int) (r2 : Int) (w : World) (h : tnum_do.f k a0 a1 a2_0 a2_1 a3_0 a3_1 = some (r1, r2)) :
    Calls Try.prog 45 #[.int .i64 a0, .bool a1, .agg #[.int .u64 a2_0, .int .u64 a2_1], .agg #[.int .u64 a3_0, .int .u64 a3_1]] w fun e w' => e = .returned (.agg #[.int .u64 r1, .int .u64 r2]) ∧ Below w.heap.size w w' := by
  have hu24 := Try.underlying24
  have HB := Aside0.mk (Below.refl w.heap.size w)
  have H : (if a1 = true then (tnum_do.j0 k a0 (wrap64 (Go.bits .and .u64 a3_0 63)) a2_0 a2_1 a3_0 a3_1) else (tnum_do.j0 k a0 (wrap64 (Go.bits .and .u64 a3_0 31)) a2_0 a2_1 a3_0 a3_1)) = some (r1, r2) := h
  clear h
  have HC5 := Aside0.mk H
  clear H
  go_enter Try.func45, Try.ntmps45
  go_upto_if 17 with (first | ((with_reducible refine gate_dst (N := 6) rfl ?_); refine box_event ?hg (N := 6) ?hd (cs := #[.int .u64 a2_0, .int .u64 a2_1]) (t := 24) ?hr ?_; (case hd => rfl); (case hg => rfl); (case hr => first | (go_simp; done) | (go_simp; rfl)); intro gb139 hg w6 hbox hb; have n0_ := Aside0.mk (below_step (by repeat (first | (with_reducible first | exact HB.out | apply below_alloc | apply pw_below_drewN | apply below_drew1) | exact HB.out)) hb); have n1_ := Aside0.mk (hbox); have n2_ := Aside0.mk ((by rw [hg]; exact (below_size (by repeat (first | (with_reducible first | exact HB.out | apply below_alloc | apply pw_below_drewN | apply below_drew1) | exact HB.out))) : w.heap.size ≤ gb139)); have n3_ := Aside0.mk ((by rw [hg]; exact (below_size (by repeat (first | (with_reducible first | exact HB.out | apply below_alloc | apply pw_below_drewN | apply below_drew1) | exact HB.out))) : w.heap.size ≤ gb139)); clear HB; have HB := n0_; have BK139 := n1_; have GW139 := n2_; have GE139 := n3_; clear n0_ n1_ n2_ n3_; clear hb hbox hg) | ((with_reducible refine gate_dst (N := 7) rfl ?_); refine box_event ?hg (N := 7) ?hd (cs := #[.int .u64 a3_0, .int .u64 a3_1]) (t := 24) ?hr ?_; (case hd => rfl); (case hg => rfl); (case hr => first | (go_simp; done) | (go_simp; rfl)); intro gb140 hg w7 hbox hb; have n0_ := Aside0.mk (blk_below (g := gb139) (o := .cells #[.int .u64 a2_0, .int .u64 a2_1] 24 (0, 0)) (by (with_reducible repeat (first | refine blk_drewN ?_ _ | refine blk_drew ?_ | refine blk_alloc ?_ _)); exact BK139.out) hb); have n1_ := Aside0.mk (below_step (by repeat (first | (with_reducible first | exact HB.out | apply below_alloc | apply pw_below_drewN | apply below_drew1 | refine below_set ?_ GE139.out) | exact HB.out)) hb); have n2_ := Aside0.mk (hbox); have n3_ := Aside0.mk ((by rw [hg]; exact (below_size (by repeat (first | (with_reducible first | exact HB.out | apply below_alloc | apply pw_below_drewN | apply below_drew1 | refine below_set ?_ GE139.out) | exact HB.out))) : w.heap.size ≤ gb140)); have n4_ := Aside0.mk ((by rw [hg]; exact (below_size (by repeat (first | (with_reducible first | exact HB.out | apply below_alloc | apply pw_below_drewN | apply below_drew1 | refine below_set ?_ GE139.out) | exact HB.out))) : w.heap.size ≤ gb140)); have n5_ := Aside0.mk ((by rw [hg]; exact Nat.ne_of_lt (blk_lt (g := gb139) (o := .cells #[.int .u64 a2_0, .int .u64 a2_1] 24 (0, 0)) (by (with_reducible repeat (first | refine blk_drewN ?_ _ | refine blk_drew ?_ | refine blk_alloc ?_ _)); exact BK139.out)) : gb139 ≠ gb140)); have n6_ := Aside0.mk ((by rw [hg]; exact Nat.ne_of_gt (blk_lt (g := gb139) (o := .cells #[.int .u64 a2_0, .int .u64 a2_1] 24 (0, 0)) (by (with_reducible repeat (first | refine blk_drewN ?_ _ | refine blk_drew ?_ | refine blk_alloc ?_ _)); exact BK139.out)) : gb140 ≠ gb139)); clear BK139; clear HB; have BK139 := n0_; have HB := n1_; have BK140 := n2_; have GW140 := n3_; have GE140 := n4_; have NB139_140 := n5_; have NB140_139 := n6_; clear n0_ n1_ n2_ n3_ n4_ n5_ n6_; clear hb hbox hg) | ((with_reducible refine gate_dst (N := 8) rfl ?_); refine box_event ?hg (N := 8) ?hd (cs := #[.int .u64 0, .int .u64 0]) (t := 24) ?hr ?_; (case hd => rfl); (case hg => rfl); (case hr => first | (go_simp; done) | (go_simp; rfl)); intro gb141 hg w8 hbox hb; have n0_ := Aside0.mk (blk_below (g := gb139) (o := .cells #[.int .u64 a2_0, .int .u64 a2_1] 24 (0, 0)) (by (with_reducible repeat (first | refine blk_drewN ?_ _ | refine blk_drew ?_ | refine blk_alloc ?_ _)); exact BK139.out) hb); have n1_ := Aside0.mk (blk_below (g := gb140) (o := .cells #[.int .u64 a3_0, .int .u64 a3_1] 24 (0, 0)) (by (with_reducible repeat (first | refine blk_drewN ?_ _ | refine blk_drew ?_ | refine blk_alloc ?_ _)); exact BK140.out) hb); have n2_ := Aside0.mk (below_step (by repeat (first | (with_reducible first | exact HB.out | apply below_alloc | apply pw_below_drewN | apply below_drew1 | refine below_set ?_ GE139.out | refine below_set ?_ GE140.out) | exact HB.out)) hb); have n3_ := Aside0.mk (hbox); have n4_ := Aside0.mk ((by rw [hg]; exact (below_size (by repeat (first | (with_reducible first | exact HB.out | apply below_alloc | apply pw_below_drewN | apply below_drew1 | refine below_set ?_ GE139.out | refine below_set ?_ GE140.out) | exact HB.out))) : w.heap.size ≤ gb141)); have n5_ := Aside0.mk ((by rw [hg]; exact (below_size (by repeat (first | (with_reducible first | exact HB.out | apply below_alloc | apply pw_below_drewN | apply below_drew1 | refine below_set ?_ GE139.out | refine below_set ?_ GE140.out) | exact HB.out))) : w.heap.size ≤ gb141)); have n6_ := Aside0.mk ((by rw [hg]; exact Nat.ne_of_lt (blk_lt (g := gb139) (o := .cells #[.int .u64 a2_0, .int .u64 a2_1] 24 (0, 0)) (by (with_reducible repeat (first | refine blk_drewN ?_ _ | refine blk_drew ?_ | refine blk_alloc ?_ _)); exact BK139.out)) : gb139 ≠ gb141)); have n7_ := Aside0.mk ((by rw [hg]; exact Nat.ne_of_gt (blk_lt (g := gb139) (o := .cells #[.int .u64 a2_0, .int .u64 a2_1] 24 (0, 0)) (by (with_reducible repeat (first | refine blk_drewN ?_ _ | refine blk_drew ?_ | refine blk_alloc ?_ _)); exact BK139.out)) : gb141 ≠ gb139)); have n8_ := Aside0.mk ((by rw [hg]; exact Nat.ne_of_lt (blk_lt (g := gb140) (o := .cells #[.int .u64 a3_0, .int .u64 a3_1] 24 (0, 0)) (by (with_reducible repeat (first | refine blk_drewN ?_ _ | refine blk_drew ?_ | refine blk_alloc ?_ _)); exact BK140.out)) : gb140 ≠ gb141)); have n9_ := Aside0.mk ((by rw [hg]; exact Nat.ne_of_gt (blk_lt (g := gb140) (o := .cells #[.int .u64 a3_0, .int .u64 a3_1] 24 (0, 0)) (by (with_reducible repeat (first | refine blk_drewN ?_ _ | refine blk_drew ?_ | refine blk_alloc ?_ _)); exact BK140.out)) : gb141 ≠ gb140)); clear BK139; clear BK140; clear HB; have BK139 := n0_; have BK140 := n1_; have HB := n2_; have BK141 := n3_; have GW141 := n4_; have GE141 := n5_; have NB139_141 := n6_; have NB141_139 := n7_; have NB140_141 := n8_; have NB141_140 := n9_; clear n0_ n1_ n2_ n3_ n4_ n5_ n6_ n7_ n8_ n9_; clear hb hbox hg; have hnb9 := NB140_139.out; have hnc9 := NB139_140.out; have hnb10 := NB140_141.out; have hnc10 := NB141_140.out; have hcz11_0 : w8.cell? ⟨gb140, 0, none⟩ = some (.int .u64 a3_0) := (blk_cell BK140.out 0).trans rfl; have hcz11_1 : w8.cell? ⟨gb140, 1, none⟩ = some (.int .u64 a3_1) := (blk_cell BK140.out 1).trans rfl; have hfz11_0 := blk_frozen BK140.out 0; have hfz11_1 := blk_frozen BK140.out 1))
  (try simp only [Act.put, List.setIfInBounds_toArray, List.set_cons_zero, List.set_cons_succ])
  go_cut [9] (fun v9 wc => ∃ (kq : Nat) (x9_4 : Int), v9 = .int .i64 x9_4 ∧ Aside0 (tnum_do.j0 kq a0 x9_4 a2_0 a2_1 a3_0 a3_1 = some (r1, r2)) ∧ Aside0 (kq ≤ k) ∧ Aside0 (wc.heap[gb139]? = some (.cells #[.int .u64 a2_0, .int .u64 a2_1] 24 (0, 0))) ∧ Aside0 (wc.heap[gb140]? = some (.cells #[.int .u64 a3_0, .int .u64 a3_1] 24 (0, 0))) ∧ Aside0 (wc.heap[gb141]? = some (.cells #[.int .u64 0, .int .u64 0] 24 (0, 0))) ∧ Aside0 (Below w.heap.size w wc))
  case first =>
    have H := HC5.out
    clear HC5
    by_cases c12 : a1 = true
    · subst c12
      have H1 : (tnum_do.j0 k a0 (wrap64 (Go.bits .and .u64 a3_0 63)) a2_0 a2_1 a3_0 a3_1) = some (r1, r2) := by rw [if_pos rfl] at H; exact H
      clear H
      have H := H1
      clear H1
      have H' := Aside0.mk H
      clear H
      have hnb13 := NB140_139.out
      have hnc13 := NB139_140.out
      have hnb14 := NB140_141.out
      have hnc14 := NB141_140.out
      have hcz15_0 : w8.cell? ⟨gb140, 0, none⟩ = some (.int .u64 a3_0) := (blk_cell BK140.out 0).trans rfl
      have hcz15_1 : w8.cell? ⟨gb140, 1, none⟩ = some (.int .u64 a3_1) := (blk_cell BK140.out 1).trans rfl
      have hfz15_0 := blk_frozen BK140.out 0
      have hfz15_1 := blk_frozen BK140.out 1
      go_wp2
      go_meet
      case rel => exact ⟨_, (wrap64 (Go.bits .and .u64 a3_0 63)), (by first | rfl | (simp; done) | (simp [*]; done)), H', ⟨by first | omega | exact Nat.le_refl _⟩, ⟨by (with_reducible repeat (first | refine blk_drewN ?_ _ | refine blk_drew ?_ | refine blk_alloc ?_ _)); exact BK139.out⟩, ⟨by (with_reducible repeat (first | refine blk_drewN ?_ _ | refine blk_drew ?_ | refine blk_alloc ?_ _)); exact BK140.out⟩, ⟨by (with_reducible repeat (first | refine blk_drewN ?_ _ | refine blk_drew ?_ | refine blk_alloc ?_ _)); exact BK141.out⟩, ⟨by repeat (first | (with_reducible first | exact HB.out | apply below_alloc | apply pw_below_drewN | apply below_drew1 | refine below_set ?_ GE139.out | refine below_set ?_ GE140.out | refine below_set ?_ GE141.out) | exact HB.out)⟩⟩
    · replace c12 := Bool.eq_false_iff.mpr c12
      subst c12
      have H1 : (tnum_do.j0 k a0 (wrap64 (Go.bits .and .u64 a3_0 31)) a2_0 a2_1 a3_0 a3_1) = some (r1, r2) := by rw [if_neg (show ¬ (false = true) by decide)] at H; exact H
      clear H
      have H := H1
      clear H1
      have H' := Aside0.mk H
      clear H
      go_wp2
      go_meet
      case rel => exact ⟨_, (wrap64 (Go.bits .and .u64 a3_0 31)), (by first | rfl | (simp; done) | (simp [*]; done)), H', ⟨by first | omega | exact Nat.le_refl _⟩, ⟨by (with_reducible repeat (first | refine blk_drewN ?_ _ | refine blk_drew ?_ | refine blk_alloc ?_ _)); exact BK139.out⟩, ⟨by (with_reducible repeat (first | refine blk_drewN ?_ _ | refine blk_drew ?_ | refine blk_alloc ?_ _)); exact BK140.out⟩, ⟨by (with_reducible repeat (first | refine blk_drewN ?_ _ | refine blk_drew ?_ | refine blk_alloc ?_ _)); exact BK141.out⟩, ⟨by repeat (first | (with_reducible first | exact HB.out | apply below_alloc | apply pw_below_drewN | apply below_drew1 | refine below_set ?_ GE139.out | refine below_set ?_ GE140.out | refine below_set ?_ GE141.out) | exact HB.out)⟩⟩
  case rest =>
    clear HC5
    try clear c1
    try clear p2
    try clear c4
    try clear p6
    try clear c9
    try clear c10
    try clear c12
    try clear c13
    try clear c14
    try clear hcz11_0
    try clear hcz11_1
    try clear hcz15_0
    try clear hcz15_1
    try clear hfz11_0
    try clear hfz11_1
    try clear hfz15_0
    try clear hfz15_1
    obtain ⟨kq, x9_4, rfl, HA, HJ4, BK139, BK140, BK141, HB⟩ := hcut
    cases kq with
    | zero => exact absurd HA.out (by simp [tnum_do.j0])
    | succ kj4 =>
      have H := HA.out
      clear HA
      simp only [tnum_do.j0] at H
      by_cases c16 : a0 = 0
      · rw [if_pos c16] at H
        have c16b0 : (a0 == 0) = true := beq_iff_eq.mpr c16
        have c16b1 : (a0 != 0) = false := bne_eq_false_iff_eq.mpr c16
        clear c16
        replace H := Option.bind_eq_some_iff.mp H
        obtain ⟨⟨t142, t143⟩, A170, H⟩ := H
        replace H : (some (t142, t143)) = some (r1, r2) := H
        have A17 := Aside0.mk A170
        clear A170
        simp only [Option.some.injEq, Prod.mk.injEq] at H
        obtain ⟨rfl, rfl⟩ := H
        have hnb18 := NB139_140.out
        have hnc18 := NB140_139.out
        have hnb19 := NB139_141.out
        have hnc19 := NB141_139.out
        have hcz20_0 : wc.cell? ⟨gb139, 0, none⟩ = some (.int .u64 a2_0) := (blk_cell BK139.out 0).trans rfl
        have hcz20_1 : wc.cell? ⟨gb139, 1, none⟩ = some (.int .u64 a2_1) := (blk_cell BK139.out 1).trans rfl
        have hfz20_0 := blk_frozen BK139.out 0
        have hfz20_1 := blk_frozen BK139.out 1
        have hnb21 := NB140_141.out
        have hnc21 := NB141_140.out
        have hcz22_0 : wc.cell? ⟨gb140, 0, none⟩ = some (.int .u64 a3_0) := (blk_cell BK140.out 0).trans rfl
        have hcz22_1 : wc.cell? ⟨gb140, 1, none⟩ = some (.int .u64 a3_1) := (blk_cell BK140.out 1).trans rfl
        have hfz22_0 := blk_frozen BK140.out 0
        have hfz22_1 := blk_frozen BK140.out 1
        go_wp2_with (first | ((with_reducible refine gate_callee (f := 55) rfl ?_); refine goesL_ (some 27) rfl rfl Try.func55 (by kernel_rfl) rfl #[.agg #[.int .u64 a2_0, .int .u64 a2_1], .agg #[.int .u64 a3_0, .int .u64 a3_1]] rfl (by (try simp only [List.map_toArray, List.map_cons, List.map_nil]); first | done | rfl | (simp only [List.length_drop, List.length_take]; rfl)) ?_; (with_reducible refine (tnum_add.calls a2_0 a2_1 a3_0 a3_1 t142 t143 _ A17.out).mono ?_); rintro e w23 ⟨rfl, hb⟩; refine ⟨_, rfl, ?_⟩; have n0_ := Aside0.mk (blk_below (g := gb139) (o := .cells #[.int .u64 a2_0, .int .u64 a2_1] 24 (0, 0)) (by (with_reducible repeat (first | refine blk_drewN ?_ _ | refine blk_drew ?_ | refine blk_alloc ?_ _)); exact BK139.out) hb); have n1_ := Aside0.mk (blk_below (g := gb140) (o := .cells #[.int .u64 a3_0, .int .u64 a3_1] 24 (0, 0)) (by (with_reducible repeat (first | refine blk_drewN ?_ _ | refine blk_drew ?_ | refine blk_alloc ?_ _)); exact BK140.out) hb); have n2_ := Aside0.mk (blk_below (g := gb141) (o := .cells #[.int .u64 0, .int .u64 0] 24 (0, 0)) (by (with_reducible repeat (first | refine blk_drewN ?_ _ | refine blk_drew ?_ | refine blk_alloc ?_ _)); exact BK141.out) hb); have n3_ := Aside0.mk (below_step (by repeat (first | (with_reducible first | exact HB.out | apply below_alloc | apply pw_below_drewN | apply below_drew1 | refine below_set ?_ GE139.out | refine below_set ?_ GE140.out | refine below_set ?_ GE141.out) | exact HB.out)) hb); clear BK139; clear BK140; clear BK141; clear HB; have BK139 := n0_; have BK140 := n1_; have BK141 := n2_; have HB := n3_; clear n0_ n1_ n2_ n3_; (try clear hb); (try clear hb2); (try clear hk); (try clear hi); have hcz24_0 : w23.cell? ⟨gb141, 0, none⟩ = some (.int .u64 0) := (blk_cell BK141.out 0).trans rfl; have hcz24_1 : w23.cell? ⟨gb141, 1, none⟩ = some (.int .u64 0) := (blk_cell BK141.out 1).trans rfl; have hfz24_0 := blk_frozen BK141.out 0; have hfz24_1 := blk_frozen BK141.out 1))
        refine bodyPost_ret (results_cell_row rfl _ _ gb141 24 #[.int .u64 t142, .int .u64 t143] (0, 0) _ rfl (by (with_reducible repeat (first | refine blk_drewN ?_ _ | refine blk_drew ?_ | refine blk_alloc ?_ _)); refine blk_put (cs := #[.int .u64 t142, .int .u64 0]) ?_ 1 _ rfl; (with_reducible repeat (first | refine blk_drewN ?_ _ | refine blk_drew ?_ | refine blk_alloc ?_ _)); refine blk_put (cs := #[.int .u64 0, .int .u64 0]) ?_ 0 _ rfl; (with_reducible repeat (first | refine blk_drewN ?_ _ | refine blk_drew ?_ | refine blk_alloc ?_ _)); exact BK141.out) Try.underlying24 rfl (by kernel_rfl)) rfl ?_
        exact ⟨by first | rfl | (simp [errW_none, errW_some] <;> rfl) | (simp [*, errW_none, errW_some] <;> rfl), by repeat (first | (with_reducible first | exact HB.out | apply below_alloc | apply pw_below_drewN | apply below_drew1 | refine below_set ?_ GE139.out | refine below_set ?_ GE140.out | refine below_set ?_ GE141.out) | exact HB.out)⟩
      · rw [if_neg c16] at H
        have c16b0 : (a0 == 0) = false := beq_eq_false_iff_ne.mpr c16
        have c16b1 : (a0 != 0) = true := bne_iff_ne.mpr c16
        by_cases c25 : a0 = 16
        · rw [if_pos c25] at H
          have c25b0 : (a0 == 16) = true := beq_iff_eq.mpr c25
          have c25b1 : (a0 != 16) = false := bne_eq_false_iff_eq.mpr c25
          clear c25
          replace H := Option.bind_eq_some_iff.mp H
          obtain ⟨⟨t144, t145⟩, A260, H⟩ := H
          replace H : (some (t144, t145)) = some (r1, r2) := H
          have A26 := Aside0.mk A260
          clear A260
          simp only [Option.some.injEq, Prod.mk.injEq] at H
          obtain ⟨rfl, rfl⟩ := H
          have hnb27 := NB139_140.out
          have hnc27 := NB140_139.out
          have hnb28 := NB139_141.out
          have hnc28 := NB141_139.out
          have hcz29_0 : wc.cell? ⟨gb139, 0, none⟩ = some (.int .u64 a2_0) := (blk_cell BK139.out 0).trans rfl
          have hcz29_1 : wc.cell? ⟨gb139, 1, none⟩ = some (.int .u64 a2_1) := (blk_cell BK139.out 1).trans rfl
          have hfz29_0 := blk_frozen BK139.out 0
          have hfz29_1 := blk_frozen BK139.out 1
          have hnb30 := NB140_141.out
          have hnc30 := NB141_140.out
          have hcz31_0 : wc.cell? ⟨gb140, 0, none⟩ = some (.int .u64 a3_0) := (blk_cell BK140.out 0).trans rfl
          have hcz31_1 : wc.cell? ⟨gb140, 1, none⟩ = some (.int .u64 a3_1) := (blk_cell BK140.out 1).trans rfl
          have hfz31_0 := blk_frozen BK140.out 0
          have hfz31_1 := blk_frozen BK140.out 1
          go_wp2_with (first | ((with_reducible refine gate_callee (f := 56) rfl ?_); refine goesL_ (some 32) rfl rfl Try.func56 (by kernel_rfl) rfl #[.agg #[.int .u64 a2_0, .int .u64 a2_1], .agg #[.int .u64 a3_0, .int .u64 a3_1]] rfl (by (try simp only [List.map_toArray, List.map_cons, List.map_nil]); first | done | rfl | (simp only [List.length_drop, List.length_take]; rfl)) ?_; (with_reducible refine (tnum_sub.calls a2_0 a2_1 a3_0 a3_1 t144 t145 _ A26.out).mono ?_); rintro e w32 ⟨rfl, hb⟩; refine ⟨_, rfl, ?_⟩; have n0_ := Aside0.mk (blk_below (g := gb139) (o := .cells #[.int .u64 a2_0, .int .u64 a2_1] 24 (0, 0)) (by (with_reducible repeat (first | refine blk_drewN ?_ _ | refine blk_drew ?_ | refine blk_alloc ?_ _)); exact BK139.out) hb); have n1_ := Aside0.mk (blk_below (g := gb140) (o := .cells #[.int .u64 a3_0, .int .u64 a3_1] 24 (0, 0)) (by (with_reducible repeat (first | refine blk_drewN ?_ _ | refine blk_drew ?_ | refine blk_alloc ?_ _)); exact BK140.out) hb); have n2_ := Aside0.mk (blk_below (g := gb141) (o := .cells #[.int .u64 0, .int .u64 0] 24 (0, 0)) (by (with_reducible repeat (first | refine blk_drewN ?_ _ | refine blk_drew ?_ | refine blk_alloc ?_ _)); exact BK141.out) hb); have n3_ := Aside0.mk (below_step (by repeat (first | (with_reducible first | exact HB.out | apply below_alloc | apply pw_below_drewN | apply below_drew1 | refine below_set ?_ GE139.out | refine below_set ?_ GE140.out | refine below_set ?_ GE141.out) | exact HB.out)) hb); clear BK139; clear BK140; clear BK141; clear HB; have BK139 := n0_; have BK140 := n1_; have BK141 := n2_; have HB := n3_; clear n0_ n1_ n2_ n3_; (try clear hb); (try clear hb2); (try clear hk); (try clear hi); have hcz33_0 : w32.cell? ⟨gb141, 0, none⟩ = some (.int .u64 0) := (blk_cell BK141.out 0).trans rfl; have hcz33_1 : w32.cell? ⟨gb141, 1, none⟩ = some (.int .u64 0) := (blk_cell BK141.out 1).trans rfl; have hfz33_0 := blk_frozen BK141.out 0; have hfz33_1 := blk_frozen BK141.out 1))
          refine bodyPost_ret (results_cell_row rfl _ _ gb141 24 #[.int .u64 t144, .int .u64 t145] (0, 0) _ rfl (by (with_reducible repeat (first | refine blk_drewN ?_ _ | refine blk_drew ?_ | refine blk_alloc ?_ _)); refine blk_put (cs := #[.int .u64 t144, .int .u64 0]) ?_ 1 _ rfl; (with_reducible repeat (first | refine blk_drewN ?_ _ | refine blk_drew ?_ | refine blk_alloc ?_ _)); refine blk_put (cs := #[.int .u64 0, .int .u64 0]) ?_ 0 _ rfl; (with_reducible repeat (first | refine blk_drewN ?_ _ | refine blk_drew ?_ | refine blk_alloc ?_ _)); exact BK141.out) Try.underlying24 rfl (by kernel_rfl)) rfl ?_
          exact ⟨by first | rfl | (simp [errW_none, errW_some] <;> rfl) | (simp [*, errW_none, errW_some] <;> rfl), by repeat (first | (with_reducible first | exact HB.out | apply below_alloc | apply pw_below_drewN | apply below_drew1 | refine below_set ?_ GE139.out | refine below_set ?_ GE140.out | refine below_set ?_ GE141.out) | exact HB.out)⟩
        · rw [if_neg c25] at H
          have c25b0 : (a0 == 16) = false := beq_eq_false_iff_ne.mpr c25
          have c25b1 : (a0 != 16) = true := bne_iff_ne.mpr c25
          by_cases c34 : a0 = 32
          · rw [if_pos c34] at H
            have c34b0 : (a0 == 32) = true := beq_iff_eq.mpr c34
            have c34b1 : (a0 != 32) = false := bne_eq_false_iff_eq.mpr c34
            clear c34
            replace H := Option.bind_eq_some_iff.mp H
            obtain ⟨⟨t146, t147⟩, A350, H⟩ := H
            replace H : (some (t146, t147)) = some (r1, r2) := H
            have A35 := Aside0.mk A350
            clear A350
            simp only [Option.some.injEq, Prod.mk.injEq] at H
            obtain ⟨rfl, rfl⟩ := H
            have hnb36 := NB139_140.out
            have hnc36 := NB140_139.out
            have hnb37 := NB139_141.out
            have hnc37 := NB141_139.out
            have hcz38_0 : wc.cell? ⟨gb139, 0, none⟩ = some (.int .u64 a2_0) := (blk_cell BK139.out 0).trans rfl
            have hcz38_1 : wc.cell? ⟨gb139, 1, none⟩ = some (.int .u64 a2_1) := (blk_cell BK139.out 1).trans rfl
            have hfz38_0 := blk_frozen BK139.out 0
            have hfz38_1 := blk_frozen BK139.out 1
            have hnb39 := NB140_141.out
            have hnc39 := NB141_140.out
            have hcz40_0 : wc.cell? ⟨gb140, 0, none⟩ = some (.int .u64 a3_0) := (blk_cell BK140.out 0).trans rfl
            have hcz40_1 : wc.cell? ⟨gb140, 1, none⟩ = some (.int .u64 a3_1) := (blk_cell BK140.out 1).trans rfl
            have hfz40_0 := blk_frozen BK140.out 0
            have hfz40_1 := blk_frozen BK140.out 1
            go_wp2_with (first | ((with_reducible refine gate_callee (f := 57) rfl ?_); refine goesL_ (some 37) rfl rfl Try.func57 (by kernel_rfl) rfl #[.agg #[.int .u64 a2_0, .int .u64 a2_1], .agg #[.int .u64 a3_0, .int .u64 a3_1]] rfl (by (try simp only [List.map_toArray, List.map_cons, List.map_nil]); first | done | rfl | (simp only [List.length_drop, List.length_take]; rfl)) ?_; (with_reducible refine (tnum_mul.calls kj4 a2_0 a2_1 a3_0 a3_1 t146 t147 _ A35.out).mono ?_); rintro e w41 ⟨rfl, hb⟩; refine ⟨_, rfl, ?_⟩; have n0_ := Aside0.mk (blk_below (g := gb139) (o := .cells #[.int .u64 a2_0, .int .u64 a2_1] 24 (0, 0)) (by (with_reducible repeat (first | refine blk_drewN ?_ _ | refine blk_drew ?_ | refine blk_alloc ?_ _)); exact BK139.out) hb); have n1_ := Aside0.mk (blk_below (g := gb140) (o := .cells #[.int .u64 a3_0, .int .u64 a3_1] 24 (0, 0)) (by (with_reducible repeat (first | refine blk_drewN ?_ _ | refine blk_drew ?_ | refine blk_alloc ?_ _)); exact BK140.out) hb); have n2_ := Aside0.mk (blk_below (g := gb141) (o := .cells #[.int .u64 0, .int .u64 0] 24 (0, 0)) (by (with_reducible repeat (first | refine blk_drewN ?_ _ | refine blk_drew ?_ | refine blk_alloc ?_ _)); exact BK141.out) hb); have n3_ := Aside0.mk (below_step (by repeat (first | (with_reducible first | exact HB.out | apply below_alloc | apply pw_below_drewN | apply below_drew1 | refine below_set ?_ GE139.out | refine below_set ?_ GE140.out | refine below_set ?_ GE141.out) | exact HB.out)) hb); clear BK139; clear BK140; clear BK141; clear HB; have BK139 := n0_; have BK140 := n1_; have BK141 := n2_; have HB := n3_; clear n0_ n1_ n2_ n3_; (try clear hb); (try clear hb2); (try clear hk); (try clear hi); have hcz42_0 : w41.cell? ⟨gb141, 0, none⟩ = some (.int .u64 0) := (blk_cell BK141.out 0).trans rfl; have hcz42_1 : w41.cell? ⟨gb141, 1, none⟩ = some (.int .u64 0) := (blk_cell BK141.out 1).trans rfl; have hfz42_0 := blk_frozen BK141.out 0; have hfz42_1 := blk_frozen BK141.out 1))
            refine bodyPost_ret (results_cell_row rfl _ _ gb141 24 #[.int .u64 t146, .int .u64 t147] (0, 0) _ rfl (by (with_reducible repeat (first | refine blk_drewN ?_ _ | refine blk_drew ?_ | refine blk_alloc ?_ _)); refine blk_put (cs := #[.int .u64 t146, .int .u64 0]) ?_ 1 _ rfl; (with_reducible repeat (first | refine blk_drewN ?_ _ | refine blk_drew ?_ | refine blk_alloc ?_ _)); refine blk_put (cs := #[.int .u64 0, .int .u64 0]) ?_ 0 _ rfl; (with_reducible repeat (first | refine blk_drewN ?_ _ | refine blk_drew ?_ | refine blk_alloc ?_ _)); exact BK141.out) Try.underlying24 rfl (by kernel_rfl)) rfl ?_
            exact ⟨by first | rfl | (simp [errW_none, errW_some] <;> rfl) | (simp [*, errW_none, errW_some] <;> rfl), by repeat (first | (with_reducible first | exact HB.out | apply below_alloc | apply pw_below_drewN | apply below_drew1 | refine below_set ?_ GE139.out | refine below_set ?_ GE140.out | refine below_set ?_ GE141.out) | exact HB.out)⟩
          · rw [if_neg c34] at H
            have c34b0 : (a0 == 32) = false := beq_eq_false_iff_ne.mpr c34
            have c34b1 : (a0 != 32) = true := bne_iff_ne.mpr c34
            by_cases c43 : a0 = 64
            · rw [if_pos c43] at H
              have c43b0 : (a0 == 64) = true := beq_iff_eq.mpr c43
              have c43b1 : (a0 != 64) = false := bne_eq_false_iff_eq.mpr c43
              clear c43
              simp only [Option.some.injEq, Prod.mk.injEq] at H
              obtain ⟨rfl, rfl⟩ := H
              have hnb44 := NB139_140.out
              have hnc44 := NB140_139.out
              have hnb45 := NB139_141.out
              have hnc45 := NB141_139.out
              have hcz46_0 : wc.cell? ⟨gb139, 0, none⟩ = some (.int .u64 a2_0) := (blk_cell BK139.out 0).trans rfl
              have hcz46_1 : wc.cell? ⟨gb139, 1, none⟩ = some (.int .u64 a2_1) := (blk_cell BK139.out 1).trans rfl
              have hfz46_0 := blk_frozen BK139.out 0
              have hfz46_1 := blk_frozen BK139.out 1
              have hnb47 := NB140_141.out
              have hnc47 := NB141_140.out
              have hcz48_0 : wc.cell? ⟨gb140, 0, none⟩ = some (.int .u64 a3_0) := (blk_cell BK140.out 0).trans rfl
              have hcz48_1 : wc.cell? ⟨gb140, 1, none⟩ = some (.int .u64 a3_1) := (blk_cell BK140.out 1).trans rfl
              have hfz48_0 := blk_frozen BK140.out 0
              have hfz48_1 := blk_frozen BK140.out 1
              have hcz49_0 : wc.cell? ⟨gb141, 0, none⟩ = some (.int .u64 0) := (blk_cell BK141.out 0).trans rfl
              have hcz49_1 : wc.cell? ⟨gb141, 1, none⟩ = some (.int .u64 0) := (blk_cell BK141.out 1).trans rfl
              have hfz49_0 := blk_frozen BK141.out 0
              have hfz49_1 := blk_frozen BK141.out 1
              go_wp2
              refine bodyPost_ret (results_cell_row rfl _ _ gb141 24 #[.int .u64 (Go.bits .or .u64 a2_0 a3_0), .int .u64 (Go.bits .andNot .u64 (Go.bits .or .u64 a2_1 a3_1) (Go.bits .or .u64 a2_0 a3_0))] (0, 0) _ rfl (by (with_reducible repeat (first | refine blk_drewN ?_ _ | refine blk_drew ?_ | refine blk_alloc ?_ _)); refine blk_put (cs := #[.int .u64 (Go.bits .or .u64 a2_0 a3_0), .int .u64 0]) ?_ 1 _ rfl; (with_reducible repeat (first | refine blk_drewN ?_ _ | refine blk_drew ?_ | refine blk_alloc ?_ _)); refine blk_put (cs := #[.int .u64 0, .int .u64 0]) ?_ 0 _ rfl; (with_reducible repeat (first | refine blk_drewN ?_ _ | refine blk_drew ?_ | refine blk_alloc ?_ _)); exact BK141.out) Try.underlying24 rfl (by kernel_rfl)) rfl ?_
              exact ⟨by first | rfl | (simp [errW_none, errW_some] <;> rfl) | (simp [*, errW_none, errW_some] <;> rfl), by repeat (first | (with_reducible first | exact HB.out | apply below_alloc | apply pw_below_drewN | apply below_drew1 | refine below_set ?_ GE139.out | refine below_set ?_ GE140.out | refine below_set ?_ GE141.out) | exact HB.out)⟩
            · rw [if_neg c43] at H
              have c43b0 : (a0 == 64) = false := beq_eq_false_iff_ne.mpr c43
              have c43b1 : (a0 != 64) = true := bne_iff_ne.mpr c43
              by_cases c50 : a0 = 80
              · rw [if_pos c50] at H
                have c50b0 : (a0 == 80) = true := beq_iff_eq.mpr c50
                have c50b1 : (a0 != 80) = false := bne_eq_false_iff_eq.mpr c50
                clear c50
                simp only [Option.some.injEq, Prod.mk.injEq] at H
                obtain ⟨rfl, rfl⟩ := H
                have hnb51 := NB139_140.out
                have hnc51 := NB140_139.out
                have hnb52 := NB139_141.out
                have hnc52 := NB141_139.out
                have hcz53_0 : wc.cell? ⟨gb139, 0, none⟩ = some (.int .u64 a2_0) := (blk_cell BK139.out 0).trans rfl
                have hcz53_1 : wc.cell? ⟨gb139, 1, none⟩ = some (.int .u64 a2_1) := (blk_cell BK139.out 1).trans rfl
                have hfz53_0 := blk_frozen BK139.out 0
                have hfz53_1 := blk_frozen BK139.out 1
                have hnb54 := NB140_141.out
                have hnc54 := NB141_140.out
                have hcz55_0 : wc.cell? ⟨gb140, 0, none⟩ = some (.int .u64 a3_0) := (blk_cell BK140.out 0).trans rfl
                have hcz55_1 : wc.cell? ⟨gb140, 1, none⟩ = some (.int .u64 a3_1) := (blk_cell BK140.out 1).trans rfl
                have hfz55_0 := blk_frozen BK140.out 0
                have hfz55_1 := blk_frozen BK140.out 1
                have hcz56_0 : wc.cell? ⟨gb141, 0, none⟩ = some (.int .u64 0) := (blk_cell BK141.out 0).trans rfl
                have hcz56_1 : wc.cell? ⟨gb141, 1, none⟩ = some (.int .u64 0) := (blk_cell BK141.out 1).trans rfl
                have hfz56_0 := blk_frozen BK141.out 0
                have hfz56_1 := blk_frozen BK141.out 1
                go_wp2
                refine bodyPost_ret (results_cell_row rfl _ _ gb141 24 #[.int .u64 (Go.bits .and .u64 a2_0 a3_0), .int .u64 (Go.bits .andNot .u64 (Go.bits .and .u64 (Go.bits .or .u64 a2_0 a2_1) (Go.bits .or .u64 a3_0 a3_1)) (Go.bits .and .u64 a2_0 a3_0))] (0, 0) _ rfl (by (with_reducible repeat (first | refine blk_drewN ?_ _ | refine blk_drew ?_ | refine blk_alloc ?_ _)); refine blk_put (cs := #[.int .u64 (Go.bits .and .u64 a2_0 a3_0), .int .u64 0]) ?_ 1 _ rfl; (with_reducible repeat (first | refine blk_drewN ?_ _ | refine blk_drew ?_ | refine blk_alloc ?_ _)); refine blk_put (cs := #[.int .u64 0, .int .u64 0]) ?_ 0 _ rfl; (with_reducible repeat (first | refine blk_drewN ?_ _ | refine blk_drew ?_ | refine blk_alloc ?_ _)); exact BK141.out) Try.underlying24 rfl (by kernel_rfl)) rfl ?_
                exact ⟨by first | rfl | (simp [errW_none, errW_some] <;> rfl) | (simp [*, errW_none, errW_some] <;> rfl), by repeat (first | (with_reducible first | exact HB.out | apply below_alloc | apply pw_below_drewN | apply below_drew1 | refine below_set ?_ GE139.out | refine below_set ?_ GE140.out | refine below_set ?_ GE141.out) | exact HB.out)⟩
              · rw [if_neg c50] at H
                have c50b0 : (a0 == 80) = false := beq_eq_false_iff_ne.mpr c50
                have c50b1 : (a0 != 80) = true := bne_iff_ne.mpr c50
                by_cases c57 : a0 = 96
                · rw [if_pos c57] at H
                  have c57b0 : (a0 == 96) = true := beq_iff_eq.mpr c57
                  have c57b1 : (a0 != 96) = false := bne_eq_false_iff_eq.mpr c57
                  clear c57
                  by_cases c58 : a3_1 = 0
                  · rw [if_pos c58] at H
                    have c58b0 : (a3_1 == 0) = true := beq_iff_eq.mpr c58
                    have c58b1 : (a3_1 != 0) = false := bne_eq_false_iff_eq.mpr c58
                    clear c58
                    replace H := Option.bind_eq_some_iff.mp H
                    obtain ⟨⟨t148, t149⟩, A590, H⟩ := H
                    replace H : (some (t148, t149)) = some (r1, r2) := H
                    have A59 := Aside0.mk A590
                    clear A590
                    simp only [Option.some.injEq, Prod.mk.injEq] at H
                    obtain ⟨rfl, rfl⟩ := H
                    have hnb60 := NB140_139.out
                    have hnc60 := NB139_140.out
                    have hnb61 := NB140_141.out
                    have hnc61 := NB141_140.out
                    have hcz62_0 : wc.cell? ⟨gb140, 0, none⟩ = some (.int .u64 a3_0) := (blk_cell BK140.out 0).trans rfl
                    have hcz62_1 : wc.cell? ⟨gb140, 1, none⟩ = some (.int .u64 a3_1) := (blk_cell BK140.out 1).trans rfl
                    have hfz62_0 := blk_frozen BK140.out 0
                    have hfz62_1 := blk_frozen BK140.out 1
                    have hnb63 := NB139_141.out
                    have hnc63 := NB141_139.out
                    have hcz64_0 : wc.cell? ⟨gb139, 0, none⟩ = some (.int .u64 a2_0) := (blk_cell BK139.out 0).trans rfl
                    have hcz64_1 : wc.cell? ⟨gb139, 1, none⟩ = some (.int .u64 a2_1) := (blk_cell BK139.out 1).trans rfl
                    have hfz64_0 := blk_frozen BK139.out 0
                    have hfz64_1 := blk_frozen BK139.out 1
                    go_wp2_with (first | ((with_reducible refine gate_callee (f := 58) rfl ?_); refine goesL_ (some 83) rfl rfl Try.func58 (by kernel_rfl) rfl #[.agg #[.int .u64 a2_0, .int .u64 a2_1], .int .i64 x9_4] rfl (by (try simp only [List.map_toArray, List.map_cons, List.map_nil]); first | done | rfl | (simp only [List.length_drop, List.length_take]; rfl)) ?_; (with_reducible refine (tnum_shift.calls a2_0 a2_1 x9_4 t148 t149 _ A59.out).mono ?_); rintro e w65 ⟨rfl, hb⟩; refine ⟨_, rfl, ?_⟩; have n0_ := Aside0.mk (blk_below (g := gb139) (o := .cells #[.int .u64 a2_0, .int .u64 a2_1] 24 (0, 0)) (by (with_reducible repeat (first | refine blk_drewN ?_ _ | refine blk_drew ?_ | refine blk_alloc ?_ _)); exact BK139.out) hb); have n1_ := Aside0.mk (blk_below (g := gb140) (o := .cells #[.int .u64 a3_0, .int .u64 a3_1] 24 (0, 0)) (by (with_reducible repeat (first | refine blk_drewN ?_ _ | refine blk_drew ?_ | refine blk_alloc ?_ _)); exact BK140.out) hb); have n2_ := Aside0.mk (blk_below (g := gb141) (o := .cells #[.int .u64 0, .int .u64 0] 24 (0, 0)) (by (with_reducible repeat (first | refine blk_drewN ?_ _ | refine blk_drew ?_ | refine blk_alloc ?_ _)); exact BK141.out) hb); have n3_ := Aside0.mk (below_step (by repeat (first | (with_reducible first | exact HB.out | apply below_alloc | apply pw_below_drewN | apply below_drew1 | refine below_set ?_ GE139.out | refine below_set ?_ GE140.out | refine below_set ?_ GE141.out) | exact HB.out)) hb); clear BK139; clear BK140; clear BK141; clear HB; have BK139 := n0_; have BK140 := n1_; have BK141 := n2_; have HB := n3_; clear n0_ n1_ n2_ n3_; (try clear hb); (try clear hb2); (try clear hk); (try clear hi); have hcz66_0 : w65.cell? ⟨gb141, 0, none⟩ = some (.int .u64 0) := (blk_cell BK141.out 0).trans rfl; have hcz66_1 : w65.cell? ⟨gb141, 1, none⟩ = some (.int .u64 0) := (blk_cell BK141.out 1).trans rfl; have hfz66_0 := blk_frozen BK141.out 0; have hfz66_1 := blk_frozen BK141.out 1))
                    refine bodyPost_ret (results_cell_row rfl _ _ gb141 24 #[.int .u64 t148, .int .u64 t149] (0, 0) _ rfl (by (with_reducible repeat (first | refine blk_drewN ?_ _ | refine blk_drew ?_ | refine blk_alloc ?_ _)); refine blk_put (cs := #[.int .u64 t148, .int .u64 0]) ?_ 1 _ rfl; (with_reducible repeat (first | refine blk_drewN ?_ _ | refine blk_drew ?_ | refine blk_alloc ?_ _)); refine blk_put (cs := #[.int .u64 0, .int .u64 0]) ?_ 0 _ rfl; (with_reducible repeat (first | refine blk_drewN ?_ _ | refine blk_drew ?_ | refine blk_alloc ?_ _)); exact BK141.out) Try.underlying24 rfl (by kernel_rfl)) rfl ?_
                    exact ⟨by first | rfl | (simp [errW_none, errW_some] <;> rfl) | (simp [*, errW_none, errW_some] <;> rfl), by repeat (first | (with_reducible first | exact HB.out | apply below_alloc | apply pw_below_drewN | apply below_drew1 | refine below_set ?_ GE139.out | refine below_set ?_ GE140.out | refine below_set ?_ GE141.out) | exact HB.out)⟩
                  · rw [if_neg c58] at H
                    have c58b0 : (a3_1 == 0) = false := beq_eq_false_iff_ne.mpr c58
                    have c58b1 : (a3_1 != 0) = true := bne_iff_ne.mpr c58
                    replace H := Option.bind_eq_some_iff.mp H
                    obtain ⟨⟨t150, t151⟩, A670, H⟩ := H
                    replace H : (some (t150, t151)) = some (r1, r2) := H
                    have A67 := Aside0.mk A670
                    clear A670
                    simp only [Option.some.injEq, Prod.mk.injEq] at H
                    obtain ⟨rfl, rfl⟩ := H
                    have hnb68 := NB140_139.out
                    have hnc68 := NB139_140.out
                    have hnb69 := NB140_141.out
                    have hnc69 := NB141_140.out
                    have hcz70_0 : wc.cell? ⟨gb140, 0, none⟩ = some (.int .u64 a3_0) := (blk_cell BK140.out 0).trans rfl
                    have hcz70_1 : wc.cell? ⟨gb140, 1, none⟩ = some (.int .u64 a3_1) := (blk_cell BK140.out 1).trans rfl
                    have hfz70_0 := blk_frozen BK140.out 0
                    have hfz70_1 := blk_frozen BK140.out 1
                    go_wp2_with (first | ((with_reducible refine gate_callee (f := 24) rfl ?_); refine goesL_ (some 117) rfl rfl Try.func24 (by kernel_rfl) rfl #[] rfl (by (try simp only [List.map_toArray, List.map_cons, List.map_nil]); first | done | rfl | (simp only [List.length_drop, List.length_take]; rfl)) ?_; (with_reducible refine (tnum_Any.calls  t150 t151 _ A67.out).mono ?_); rintro e w71 ⟨rfl, hb⟩; refine ⟨_, rfl, ?_⟩; have n0_ := Aside0.mk (blk_below (g := gb139) (o := .cells #[.int .u64 a2_0, .int .u64 a2_1] 24 (0, 0)) (by (with_reducible repeat (first | refine blk_drewN ?_ _ | refine blk_drew ?_ | refine blk_alloc ?_ _)); exact BK139.out) hb); have n1_ := Aside0.mk (blk_below (g := gb140) (o := .cells #[.int .u64 a3_0, .int .u64 a3_1] 24 (0, 0)) (by (with_reducible repeat (first | refine blk_drewN ?_ _ | refine blk_drew ?_ | refine blk_alloc ?_ _)); exact BK140.out) hb); have n2_ := Aside0.mk (blk_below (g := gb141) (o := .cells #[.int .u64 0, .int .u64 0] 24 (0, 0)) (by (with_reducible repeat (first | refine blk_drewN ?_ _ | refine blk_drew ?_ | refine blk_alloc ?_ _)); exact BK141.out) hb); have n3_ := Aside0.mk (below_step (by repeat (first | (with_reducible first | exact HB.out | apply below_alloc | apply pw_below_drewN | apply below_drew1 | refine below_set ?_ GE139.out | refine below_set ?_ GE140.out | refine below_set ?_ GE141.out) | exact HB.out)) hb); clear BK139; clear BK140; clear BK141; clear HB; have BK139 := n0_; have BK140 := n1_; have BK141 := n2_; have HB := n3_; clear n0_ n1_ n2_ n3_; (try clear hb); (try clear hb2); (try clear hk); (try clear hi); have hnb72 := NB141_139.out; have hnc72 := NB139_141.out; have hcz73_0 : w71.cell? ⟨gb141, 0, none⟩ = some (.int .u64 0) := (blk_cell BK141.out 0).trans rfl; have hcz73_1 : w71.cell? ⟨gb141, 1, none⟩ = some (.int .u64 0) := (blk_cell BK141.out 1).trans rfl; have hfz73_0 := blk_frozen BK141.out 0; have hfz73_1 := blk_frozen BK141.out 1))
                    refine bodyPost_ret (results_cell_row rfl _ _ gb141 24 #[.int .u64 t150, .int .u64 t151] (0, 0) _ rfl (by (with_reducible repeat (first | refine blk_drewN ?_ _ | refine blk_drew ?_ | refine blk_alloc ?_ _)); refine blk_put (cs := #[.int .u64 t150, .int .u64 0]) ?_ 1 _ rfl; (with_reducible repeat (first | refine blk_drewN ?_ _ | refine blk_drew ?_ | refine blk_alloc ?_ _)); refine blk_put (cs := #[.int .u64 0, .int .u64 0]) ?_ 0 _ rfl; (with_reducible repeat (first | refine blk_drewN ?_ _ | refine blk_drew ?_ | refine blk_alloc ?_ _)); exact BK141.out) Try.underlying24 rfl (by kernel_rfl)) rfl ?_
                    exact ⟨by first | rfl | (simp [errW_none, errW_some] <;> rfl) | (simp [*, errW_none, errW_some] <;> rfl), by repeat (first | (with_reducible first | exact HB.out | apply below_alloc | apply pw_below_drewN | apply below_drew1 | refine below_set ?_ GE139.out | refine below_set ?_ GE140.out | refine below_set ?_ GE141.out) | exact HB.out)⟩
                · rw [if_neg c57] at H
                  have c57b0 : (a0 == 96) = false := beq_eq_false_iff_ne.mpr c57
                  have c57b1 : (a0 != 96) = true := bne_iff_ne.mpr c57
                  by_cases c74 : a0 = 112
                  · rw [if_pos c74] at H
                    have c74b0 : (a0 == 112) = true := beq_iff_eq.mpr c74
                    have c74b1 : (a0 != 112) = false := bne_eq_false_iff_eq.mpr c74
                    clear c74
                    by_cases c75 : a3_1 = 0
                    · rw [if_pos c75] at H
                      have c75b0 : (a3_1 == 0) = true := beq_iff_eq.mpr c75
                      have c75b1 : (a3_1 != 0) = false := bne_eq_false_iff_eq.mpr c75
                      clear c75
                      replace H := Option.bind_eq_some_iff.mp H
                      obtain ⟨⟨t152, t153⟩, A760, H⟩ := H
                      replace H : (some (t152, t153)) = some (r1, r2) := H
                      have A76 := Aside0.mk A760
                      clear A760
                      simp only [Option.some.injEq, Prod.mk.injEq] at H
                      obtain ⟨rfl, rfl⟩ := H
                      have hnb77 := NB140_139.out
                      have hnc77 := NB139_140.out
                      have hnb78 := NB140_141.out
                      have hnc78 := NB141_140.out
                      have hcz79_0 : wc.cell? ⟨gb140, 0, none⟩ = some (.int .u64 a3_0) := (blk_cell BK140.out 0).trans rfl
                      have hcz79_1 : wc.cell? ⟨gb140, 1, none⟩ = some (.int .u64 a3_1) := (blk_cell BK140.out 1).trans rfl
                      have hfz79_0 := blk_frozen BK140.out 0
                      have hfz79_1 := blk_frozen BK140.out 1
                      have hnb80 := NB139_141.out
                      have hnc80 := NB141_139.out
                      have hcz81_0 : wc.cell? ⟨gb139, 0, none⟩ = some (.int .u64 a2_0) := (blk_cell BK139.out 0).trans rfl
                      have hcz81_1 : wc.cell? ⟨gb139, 1, none⟩ = some (.int .u64 a2_1) := (blk_cell BK139.out 1).trans rfl
                      have hfz81_0 := blk_frozen BK139.out 0
                      have hfz81_1 := blk_frozen BK139.out 1
                      go_wp2_with (first | ((with_reducible refine gate_callee (f := 58) rfl ?_); refine goesL_ (some 92) rfl rfl Try.func58 (by kernel_rfl) rfl #[.agg #[.int .u64 a2_0, .int .u64 a2_1], .int .i64 (wrap64 (-x9_4))] rfl (by (try simp only [List.map_toArray, List.map_cons, List.map_nil]); first | done | rfl | (simp only [List.length_drop, List.length_take]; rfl)) ?_; (with_reducible refine (tnum_shift.calls a2_0 a2_1 (wrap64 (-x9_4)) t152 t153 _ A76.out).mono ?_); rintro e w82 ⟨rfl, hb⟩; refine ⟨_, rfl, ?_⟩; have n0_ := Aside0.mk (blk_below (g := gb139) (o := .cells #[.int .u64 a2_0, .int .u64 a2_1] 24 (0, 0)) (by (with_reducible repeat (first | refine blk_drewN ?_ _ | refine blk_drew ?_ | refine blk_alloc ?_ _)); exact BK139.out) hb); have n1_ := Aside0.mk (blk_below (g := gb140) (o := .cells #[.int .u64 a3_0, .int .u64 a3_1] 24 (0, 0)) (by (with_reducible repeat (first | refine blk_drewN ?_ _ | refine blk_drew ?_ | refine blk_alloc ?_ _)); exact BK140.out) hb); have n2_ := Aside0.mk (blk_below (g := gb141) (o := .cells #[.int .u64 0, .int .u64 0] 24 (0, 0)) (by (with_reducible repeat (first | refine blk_drewN ?_ _ | refine blk_drew ?_ | refine blk_alloc ?_ _)); exact BK141.out) hb); have n3_ := Aside0.mk (below_step (by repeat (first | (with_reducible first | exact HB.out | apply below_alloc | apply pw_below_drewN | apply below_drew1 | refine below_set ?_ GE139.out | refine below_set ?_ GE140.out | refine below_set ?_ GE141.out) | exact HB.out)) hb); clear BK139; clear BK140; clear BK141; clear HB; have BK139 := n0_; have BK140 := n1_; have BK141 := n2_; have HB := n3_; clear n0_ n1_ n2_ n3_; (try clear hb); (try clear hb2); (try clear hk); (try clear hi); have hcz83_0 : w82.cell? ⟨gb141, 0, none⟩ = some (.int .u64 0) := (blk_cell BK141.out 0).trans rfl; have hcz83_1 : w82.cell? ⟨gb141, 1, none⟩ = some (.int .u64 0) := (blk_cell BK141.out 1).trans rfl; have hfz83_0 := blk_frozen BK141.out 0; have hfz83_1 := blk_frozen BK141.out 1))
                      refine bodyPost_ret (results_cell_row rfl _ _ gb141 24 #[.int .u64 t152, .int .u64 t153] (0, 0) _ rfl (by (with_reducible repeat (first | refine blk_drewN ?_ _ | refine blk_drew ?_ | refine blk_alloc ?_ _)); refine blk_put (cs := #[.int .u64 t152, .int .u64 0]) ?_ 1 _ rfl; (with_reducible repeat (first | refine blk_drewN ?_ _ | refine blk_drew ?_ | refine blk_alloc ?_ _)); refine blk_put (cs := #[.int .u64 0, .int .u64 0]) ?_ 0 _ rfl; (with_reducible repeat (first | refine blk_drewN ?_ _ | refine blk_drew ?_ | refine blk_alloc ?_ _)); exact BK141.out) Try.underlying24 rfl (by kernel_rfl)) rfl ?_
                      exact ⟨by first | rfl | (simp [errW_none, errW_some] <;> rfl) | (simp [*, errW_none, errW_some] <;> rfl), by repeat (first | (with_reducible first | exact HB.out | apply below_alloc | apply pw_below_drewN | apply below_drew1 | refine below_set ?_ GE139.out | refine below_set ?_ GE140.out | refine below_set ?_ GE141.out) | exact HB.out)⟩
                    · rw [if_neg c75] at H
                      have c75b0 : (a3_1 == 0) = false := beq_eq_false_iff_ne.mpr c75
                      have c75b1 : (a3_1 != 0) = true := bne_iff_ne.mpr c75
                      replace H := Option.bind_eq_some_iff.mp H
                      obtain ⟨⟨t154, t155⟩, A840, H⟩ := H
                      replace H : (some (t154, t155)) = some (r1, r2) := H
                      have A84 := Aside0.mk A840
                      clear A840
                      simp only [Option.some.injEq, Prod.mk.injEq] at H
                      obtain ⟨rfl, rfl⟩ := H
                      have hnb85 := NB140_139.out
                      have hnc85 := NB139_140.out
                      have hnb86 := NB140_141.out
                      have hnc86 := NB141_140.out
                      have hcz87_0 : wc.cell? ⟨gb140, 0, none⟩ = some (.int .u64 a3_0) := (blk_cell BK140.out 0).trans rfl
                      have hcz87_1 : wc.cell? ⟨gb140, 1, none⟩ = some (.int .u64 a3_1) := (blk_cell BK140.out 1).trans rfl
                      have hfz87_0 := blk_frozen BK140.out 0
                      have hfz87_1 := blk_frozen BK140.out 1
                      go_wp2_with (first | ((with_reducible refine gate_callee (f := 24) rfl ?_); refine goesL_ (some 117) rfl rfl Try.func24 (by kernel_rfl) rfl #[] rfl (by (try simp only [List.map_toArray, List.map_cons, List.map_nil]); first | done | rfl | (simp only [List.length_drop, List.length_take]; rfl)) ?_; (with_reducible refine (tnum_Any.calls  t154 t155 _ A84.out).mono ?_); rintro e w88 ⟨rfl, hb⟩; refine ⟨_, rfl, ?_⟩; have n0_ := Aside0.mk (blk_below (g := gb139) (o := .cells #[.int .u64 a2_0, .int .u64 a2_1] 24 (0, 0)) (by (with_reducible repeat (first | refine blk_drewN ?_ _ | refine blk_drew ?_ | refine blk_alloc ?_ _)); exact BK139.out) hb); have n1_ := Aside0.mk (blk_below (g := gb140) (o := .cells #[.int .u64 a3_0, .int .u64 a3_1] 24 (0, 0)) (by (with_reducible repeat (first | refine blk_drewN ?_ _ | refine blk_drew ?_ | refine blk_alloc ?_ _)); exact BK140.out) hb); have n2_ := Aside0.mk (blk_below (g := gb141) (o := .cells #[.int .u64 0, .int .u64 0] 24 (0, 0)) (by (with_reducible repeat (first | refine blk_drewN ?_ _ | refine blk_drew ?_ | refine blk_alloc ?_ _)); exact BK141.out) hb); have n3_ := Aside0.mk (below_step (by repeat (first | (with_reducible first | exact HB.out | apply below_alloc | apply pw_below_drewN | apply below_drew1 | refine below_set ?_ GE139.out | refine below_set ?_ GE140.out | refine below_set ?_ GE141.out) | exact HB.out)) hb); clear BK139; clear BK140; clear BK141; clear HB; have BK139 := n0_; have BK140 := n1_; have BK141 := n2_; have HB := n3_; clear n0_ n1_ n2_ n3_; (try clear hb); (try clear hb2); (try clear hk); (try clear hi); have hnb89 := NB141_139.out; have hnc89 := NB139_141.out; have hcz90_0 : w88.cell? ⟨gb141, 0, none⟩ = some (.int .u64 0) := (blk_cell BK141.out 0).trans rfl; have hcz90_1 : w88.cell? ⟨gb141, 1, none⟩ = some (.int .u64 0) := (blk_cell BK141.out 1).trans rfl; have hfz90_0 := blk_frozen BK141.out 0; have hfz90_1 := blk_frozen BK141.out 1))
                      refine bodyPost_ret (results_cell_row rfl _ _ gb141 24 #[.int .u64 t154, .int .u64 t155] (0, 0) _ rfl (by (with_reducible repeat (first | refine blk_drewN ?_ _ | refine blk_drew ?_ | refine blk_alloc ?_ _)); refine blk_put (cs := #[.int .u64 t154, .int .u64 0]) ?_ 1 _ rfl; (with_reducible repeat (first | refine blk_drewN ?_ _ | refine blk_drew ?_ | refine blk_alloc ?_ _)); refine blk_put (cs := #[.int .u64 0, .int .u64 0]) ?_ 0 _ rfl; (with_reducible repeat (first | refine blk_drewN ?_ _ | refine blk_drew ?_ | refine blk_alloc ?_ _)); exact BK141.out) Try.underlying24 rfl (by kernel_rfl)) rfl ?_
                      exact ⟨by first | rfl | (simp [errW_none, errW_some] <;> rfl) | (simp [*, errW_none, errW_some] <;> rfl), by repeat (first | (with_reducible first | exact HB.out | apply below_alloc | apply pw_below_drewN | apply below_drew1 | refine below_set ?_ GE139.out | refine below_set ?_ GE140.out | refine below_set ?_ GE141.out) | exact HB.out)⟩
                  · rw [if_neg c74] at H
                    have c74b0 : (a0 == 112) = false := beq_eq_false_iff_ne.mpr c74
                    have c74b1 : (a0 != 112) = true := bne_iff_ne.mpr c74
                    by_cases c91 : a0 = 128
                    · rw [if_pos c91] at H
                      have c91b0 : (a0 == 128) = true := beq_iff_eq.mpr c91
                      have c91b1 : (a0 != 128) = false := bne_eq_false_iff_eq.mpr c91
                      clear c91
                      replace H := Option.bind_eq_some_iff.mp H
                      obtain ⟨⟨t156, t157⟩, A920, H⟩ := H
                      replace H : (some (t156, t157)) = some (r1, r2) := H
                      have A92 := Aside0.mk A920
                      clear A920
                      simp only [Option.some.injEq, Prod.mk.injEq] at H
                      obtain ⟨rfl, rfl⟩ := H
                      have hnb93 := NB139_140.out
                      have hnc93 := NB140_139.out
                      have hnb94 := NB139_141.out
                      have hnc94 := NB141_139.out
                      have hcz95_0 : wc.cell? ⟨gb139, 0, none⟩ = some (.int .u64 a2_0) := (blk_cell BK139.out 0).trans rfl
                      have hcz95_1 : wc.cell? ⟨gb139, 1, none⟩ = some (.int .u64 a2_1) := (blk_cell BK139.out 1).trans rfl
                      have hfz95_0 := blk_frozen BK139.out 0
                      have hfz95_1 := blk_frozen BK139.out 1
                      go_wp2_with (first | ((with_reducible refine gate_callee (f := 56) rfl ?_); refine goesL_ (some 97) rfl rfl Try.func56 (by kernel_rfl) rfl #[.agg #[.int .u64 0, .int .u64 0], .agg #[.int .u64 a2_0, .int .u64 a2_1]] rfl (by (try simp only [List.map_toArray, List.map_cons, List.map_nil]); first | done | rfl | (simp only [List.length_drop, List.length_take]; rfl)) ?_; (with_reducible refine (tnum_sub.calls 0 0 a2_0 a2_1 t156 t157 _ A92.out).mono ?_); rintro e w96 ⟨rfl, hb⟩; refine ⟨_, rfl, ?_⟩; have n0_ := Aside0.mk (blk_below (g := gb139) (o := .cells #[.int .u64 a2_0, .int .u64 a2_1] 24 (0, 0)) (by (with_reducible repeat (first | refine blk_drewN ?_ _ | refine blk_drew ?_ | refine blk_alloc ?_ _)); exact BK139.out) hb); have n1_ := Aside0.mk (blk_below (g := gb140) (o := .cells #[.int .u64 a3_0, .int .u64 a3_1] 24 (0, 0)) (by (with_reducible repeat (first | refine blk_drewN ?_ _ | refine blk_drew ?_ | refine blk_alloc ?_ _)); exact BK140.out) hb); have n2_ := Aside0.mk (blk_below (g := gb141) (o := .cells #[.int .u64 0, .int .u64 0] 24 (0, 0)) (by (with_reducible repeat (first | refine blk_drewN ?_ _ | refine blk_drew ?_ | refine blk_alloc ?_ _)); exact BK141.out) hb); have n3_ := Aside0.mk (below_step (by repeat (first | (with_reducible first | exact HB.out | apply below_alloc | apply pw_below_drewN | apply below_drew1 | refine below_set ?_ GE139.out | refine below_set ?_ GE140.out | refine below_set ?_ GE141.out) | exact HB.out)) hb); clear BK139; clear BK140; clear BK141; clear HB; have BK139 := n0_; have BK140 := n1_; have BK141 := n2_; have HB := n3_; clear n0_ n1_ n2_ n3_; (try clear hb); (try clear hb2); (try clear hk); (try clear hi); have hnb97 := NB141_140.out; have hnc97 := NB140_141.out; have hcz98_0 : w96.cell? ⟨gb141, 0, none⟩ = some (.int .u64 0) := (blk_cell BK141.out 0).trans rfl; have hcz98_1 : w96.cell? ⟨gb141, 1, none⟩ = some (.int .u64 0) := (blk_cell BK141.out 1).trans rfl; have hfz98_0 := blk_frozen BK141.out 0; have hfz98_1 := blk_frozen BK141.out 1))
                      refine bodyPost_ret (results_cell_row rfl _ _ gb141 24 #[.int .u64 t156, .int .u64 t157] (0, 0) _ rfl (by (with_reducible repeat (first | refine blk_drewN ?_ _ | refine blk_drew ?_ | refine blk_alloc ?_ _)); refine blk_put (cs := #[.int .u64 t156, .int .u64 0]) ?_ 1 _ rfl; (with_reducible repeat (first | refine blk_drewN ?_ _ | refine blk_drew ?_ | refine blk_alloc ?_ _)); refine blk_put (cs := #[.int .u64 0, .int .u64 0]) ?_ 0 _ rfl; (with_reducible repeat (first | refine blk_drewN ?_ _ | refine blk_drew ?_ | refine blk_alloc ?_ _)); exact BK141.out) Try.underlying24 rfl (by kernel_rfl)) rfl ?_
                      exact ⟨by first | rfl | (simp [errW_none, errW_some] <;> rfl) | (simp [*, errW_none, errW_some] <;> rfl), by repeat (first | (with_reducible first | exact HB.out | apply below_alloc | apply pw_below_drewN | apply below_drew1 | refine below_set ?_ GE139.out | refine below_set ?_ GE140.out | refine below_set ?_ GE141.out) | exact HB.out)⟩
                    · rw [if_neg c91] at H
                      have c91b0 : (a0 == 128) = false := beq_eq_false_iff_ne.mpr c91
                      have c91b1 : (a0 != 128) = true := bne_iff_ne.mpr c91
                      by_cases c99 : a0 = 160
                      · rw [if_pos c99] at H
                        have c99b0 : (a0 == 160) = true := beq_iff_eq.mpr c99
                        have c99b1 : (a0 != 160) = false := bne_eq_false_iff_eq.mpr c99
                        clear c99
                        simp only [Option.some.injEq, Prod.mk.injEq] at H
                        obtain ⟨rfl, rfl⟩ := H
                        have hnb100 := NB139_140.out
                        have hnc100 := NB140_139.out
                        have hnb101 := NB139_141.out
                        have hnc101 := NB141_139.out
                        have hcz102_0 : wc.cell? ⟨gb139, 0, none⟩ = some (.int .u64 a2_0) := (blk_cell BK139.out 0).trans rfl
                        have hcz102_1 : wc.cell? ⟨gb139, 1, none⟩ = some (.int .u64 a2_1) := (blk_cell BK139.out 1).trans rfl
                        have hfz102_0 := blk_frozen BK139.out 0
                        have hfz102_1 := blk_frozen BK139.out 1
                        have hnb103 := NB140_141.out
                        have hnc103 := NB141_140.out
                        have hcz104_0 : wc.cell? ⟨gb140, 0, none⟩ = some (.int .u64 a3_0) := (blk_cell BK140.out 0).trans rfl
                        have hcz104_1 : wc.cell? ⟨gb140, 1, none⟩ = some (.int .u64 a3_1) := (blk_cell BK140.out 1).trans rfl
                        have hfz104_0 := blk_frozen BK140.out 0
                        have hfz104_1 := blk_frozen BK140.out 1
                        have hcz105_0 : wc.cell? ⟨gb141, 0, none⟩ = some (.int .u64 0) := (blk_cell BK141.out 0).trans rfl
                        have hcz105_1 : wc.cell? ⟨gb141, 1, none⟩ = some (.int .u64 0) := (blk_cell BK141.out 1).trans rfl
                        have hfz105_0 := blk_frozen BK141.out 0
                        have hfz105_1 := blk_frozen BK141.out 1
                        go_wp2
                        refine bodyPost_ret (results_cell_row rfl _ _ gb141 24 #[.int .u64 (Go.bits .andNot .u64 (Go.bits .xor .u64 a2_0 a3_0) (Go.bits .or .u64 a2_1 a3_1)), .int .u64 (Go.bits .or .u64 a2_1 a3_1)] (0, 0) _ rfl (by (with_reducible repeat (first | refine blk_drewN ?_ _ | refine blk_drew ?_ | refine blk_alloc ?_ _)); refine blk_put (cs := #[.int .u64 (Go.bits .andNot .u64 (Go.bits .xor .u64 a2_0 a3_0) (Go.bits .or .u64 a2_1 a3_1)), .int .u64 0]) ?_ 1 _ rfl; (with_reducible repeat (first | refine blk_drewN ?_ _ | refine blk_drew ?_ | refine blk_alloc ?_ _)); refine blk_put (cs := #[.int .u64 0, .int .u64 0]) ?_ 0 _ rfl; (with_reducible repeat (first | refine blk_drewN ?_ _ | refine blk_drew ?_ | refine blk_alloc ?_ _)); exact BK141.out) Try.underlying24 rfl (by kernel_rfl)) rfl ?_
                        exact ⟨by first | rfl | (simp [errW_none, errW_some] <;> rfl) | (simp [*, errW_none, errW_some] <;> rfl), by repeat (first | (with_reducible first | exact HB.out | apply below_alloc | apply pw_below_drewN | apply below_drew1 | refine below_set ?_ GE139.out | refine below_set ?_ GE140.out | refine below_set ?_ GE141.out) | exact HB.out)⟩
                      · rw [if_neg c99] at H
                        have c99b0 : (a0 == 160) = false := beq_eq_false_iff_ne.mpr c99
                        have c99b1 : (a0 != 160) = true := bne_iff_ne.mpr c99
                        by_cases c106 : a0 = 176
                        · rw [if_pos c106] at H
                          have c106b0 : (a0 == 176) = true := beq_iff_eq.mpr c106
                          have c106b1 : (a0 != 176) = false := bne_eq_false_iff_eq.mpr c106
                          clear c106
                          simp only [Option.some.injEq, Prod.mk.injEq] at H
                          obtain ⟨rfl, rfl⟩ := H
                          have hnb107 := NB140_139.out
                          have hnc107 := NB139_140.out
                          have hnb108 := NB140_141.out
                          have hnc108 := NB141_140.out
                          have hcz109_0 : wc.cell? ⟨gb140, 0, none⟩ = some (.int .u64 a3_0) := (blk_cell BK140.out 0).trans rfl
                          have hcz109_1 : wc.cell? ⟨gb140, 1, none⟩ = some (.int .u64 a3_1) := (blk_cell BK140.out 1).trans rfl
                          have hfz109_0 := blk_frozen BK140.out 0
                          have hfz109_1 := blk_frozen BK140.out 1
                          have hnb110 := NB141_139.out
                          have hnc110 := NB139_141.out
                          have hcz111_0 : wc.cell? ⟨gb141, 0, none⟩ = some (.int .u64 0) := (blk_cell BK141.out 0).trans rfl
                          have hcz111_1 : wc.cell? ⟨gb141, 1, none⟩ = some (.int .u64 0) := (blk_cell BK141.out 1).trans rfl
                          have hfz111_0 := blk_frozen BK141.out 0
                          have hfz111_1 := blk_frozen BK141.out 1
                          go_wp2
                          refine bodyPost_ret (results_cell_row rfl _ _ gb141 24 #[.int .u64 a3_0, .int .u64 a3_1] (0, 0) _ rfl (by (with_reducible repeat (first | refine blk_drewN ?_ _ | refine blk_drew ?_ | refine blk_alloc ?_ _)); refine blk_put (cs := #[.int .u64 a3_0, .int .u64 0]) ?_ 1 _ rfl; (with_reducible repeat (first | refine blk_drewN ?_ _ | refine blk_drew ?_ | refine blk_alloc ?_ _)); refine blk_put (cs := #[.int .u64 0, .int .u64 0]) ?_ 0 _ rfl; (with_reducible repeat (first | refine blk_drewN ?_ _ | refine blk_drew ?_ | refine blk_alloc ?_ _)); exact BK141.out) Try.underlying24 rfl (by kernel_rfl)) rfl ?_
                          exact ⟨by first | rfl | (simp [errW_none, errW_some] <;> rfl) | (simp [*, errW_none, errW_some] <;> rfl), by repeat (first | (with_reducible first | exact HB.out | apply below_alloc | apply pw_below_drewN | apply below_drew1 | refine below_set ?_ GE139.out | refine below_set ?_ GE140.out | refine below_set ?_ GE141.out) | exact HB.out)⟩
                        · rw [if_neg c106] at H
                          have c106b0 : (a0 == 176) = false := beq_eq_false_iff_ne.mpr c106
                          have c106b1 : (a0 != 176) = true := bne_iff_ne.mpr c106
                          replace H := Option.bind_eq_some_iff.mp H
                          obtain ⟨⟨t158, t159⟩, A1120, H⟩ := H
                          replace H : (some (t158, t159)) = some (r1, r2) := H
                          have A112 := Aside0.mk A1120
                          clear A1120
                          simp only [Option.some.injEq, Prod.mk.injEq] at H
                          obtain ⟨rfl, rfl⟩ := H
                          go_wp2_with (first | ((with_reducible refine gate_callee (f := 24) rfl ?_); refine goesL_ (some 117) rfl rfl Try.func24 (by kernel_rfl) rfl #[] rfl (by (try simp only [List.map_toArray, List.map_cons, List.map_nil]); first | done | rfl | (simp only [List.length_drop, List.length_take]; rfl)) ?_; (with_reducible refine (tnum_Any.calls  t158 t159 _ A112.out).mono ?_); rintro e w113 ⟨rfl, hb⟩; refine ⟨_, rfl, ?_⟩; have n0_ := Aside0.mk (blk_below (g := gb139) (o := .cells #[.int .u64 a2_0, .int .u64 a2_1] 24 (0, 0)) (by (with_reducible repeat (first | refine blk_drewN ?_ _ | refine blk_drew ?_ | refine blk_alloc ?_ _)); exact BK139.out) hb); have n1_ := Aside0.mk (blk_below (g := gb140) (o := .cells #[.int .u64 a3_0, .int .u64 a3_1] 24 (0, 0)) (by (with_reducible repeat (first | refine blk_drewN ?_ _ | refine blk_drew ?_ | refine blk_alloc ?_ _)); exact BK140.out) hb); have n2_ := Aside0.mk (blk_below (g := gb141) (o := .cells #[.int .u64 0, .int .u64 0] 24 (0, 0)) (by (with_reducible repeat (first | refine blk_drewN ?_ _ | refine blk_drew ?_ | refine blk_alloc ?_ _)); exact BK141.out) hb); have n3_ := Aside0.mk (below_step (by repeat (first | (with_reducible first | exact HB.out | apply below_alloc | apply pw_below_drewN | apply below_drew1 | refine below_set ?_ GE139.out | refine below_set ?_ GE140.out | refine below_set ?_ GE141.out) | exact HB.out)) hb); clear BK139; clear BK140; clear BK141; clear HB; have BK139 := n0_; have BK140 := n1_; have BK141 := n2_; have HB := n3_; clear n0_ n1_ n2_ n3_; (try clear hb); (try clear hb2); (try clear hk); (try clear hi); have hnb114 := NB141_139.out; have hnc114 := NB139_141.out; have hnb115 := NB141_140.out; have hnc115 := NB140_141.out; have hcz116_0 : w113.cell? ⟨gb141, 0, none⟩ = some (.int .u64 0) := (blk_cell BK141.out 0).trans rfl; have hcz116_1 : w113.cell? ⟨gb141, 1, none⟩ = some (.int .u64 0) := (blk_cell BK141.out 1).trans rfl; have hfz116_0 := blk_frozen BK141.out 0; have hfz116_1 := blk_frozen BK141.out 1))
                          refine bodyPost_ret (results_cell_row rfl _ _ gb141 24 #[.int .u64 t158, .int .u64 t159] (0, 0) _ rfl (by (with_reducible repeat (first | refine blk_drewN ?_ _ | refine blk_drew ?_ | refine blk_alloc ?_ _)); refine blk_put (cs := #[.int .u64 t158, .int .u64 0]) ?_ 1 _ rfl; (with_reducible repeat (first | refine blk_drewN ?_ _ | refine blk_drew ?_ | refine blk_alloc ?_ _)); refine blk_put (cs := #[.int .u64 0, .int .u64 0]) ?_ 0 _ rfl; (with_reducible repeat (first | refine blk_drewN ?_ _ | refine blk_drew ?_ | refine blk_alloc ?_ _)); exact BK141.out) Try.underlying24 rfl (by kernel_rfl)) rfl ?_
                          exact ⟨by first | rfl | (simp [errW_none, errW_some] <;> rfl) | (simp [*, errW_none, errW_some] <;> rfl), by repeat (first | (with_reducible first | exact HB.out | apply below_alloc | apply pw_below_drewN | apply below_drew1 | refine below_set ?_ GE139.out | refine below_set ?_ GE140.out | refine below_set ?_ GE141.out) | exact HB.out)⟩

end Go.Proofs.Ytladlljnpmpdpaa.PTnumBest
