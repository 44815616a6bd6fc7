-- Written by a program of this session (a variant of the print), for this claim. Lean checks it.
import Derived.Test.YtladlljnpmpdpaaPTnumRangex0
import Derived.Test.YtladlljnpmpdpaaPTnumRangex1
import Derived.Test.YtladlljnpmpdpaaPTnumRangex4
namespace Go.Proofs.Ytladlljnpmpdpaa.PTnumRange
open Go.RowKit Go.Proofs.YtladlljnpmpdpaaW.PrintWords Go.Proofs.YtladlljnpmpdpaaW.PrintLast Go.Proofs.YtladlljnpmpdpaaW.PrintMore
attribute [local go_sem] max2_int min2_int max_two min_two max_three min_three max_four min_four   -- for this text's walks alone
attribute [local go_sem high] Go.Proofs.Ytladlljnpmpdpaa.NotLaw.not_u64 Go.Proofs.Ytladlljnpmpdpaa.NotLaw.not_u32 Go.Proofs.Ytladlljnpmpdpaa.NotLaw.not_u16 Go.Proofs.Ytladlljnpmpdpaa.NotLaw.not_u8
set_option linter.unusedVariables false
set_option linter.unusedSimpArgs false

attribute [local go_sem high] eqA24
/-! ### tnum_Range: function 23 -/
def tnum_Range.f (a0 : Int) (a1 : Int) : Option (Int × Int) := if a0 > a1 then (some (0, 0)) else ((bits_Len64.f (Go.bits .xor .u64 a0 a1)).bind fun t183 => (if 0 ≤ (IntKind.u64.wrap (t183)) then (some (Go.bits .andNot .u64 a0 (IntKind.u64.wrap ((shl .u64 1 (IntKind.u64.wrap (t183))) - 1)), IntKind.u64.wrap ((shl .u64 1 (IntKind.u64.wrap (t183))) - 1))) else (none)))
set_option maxHeartbeats 8000000 in
set_option maxRecDepth 100000 in
theorem tnum_Range.calls (a0 : Int) (a1 : Int) (r1 : Int) (r2 : Int) (w : World) (h : tnum_Range.f a0 a1 = some (r1, r2)) :
    Calls Try.prog 23 #[.int .u64 a0, .int .u64 a1] w fun e w' => e = .returned (.agg #[.int .u64 r1, .int .u64 r2]) ∧ Below w.heap.size w w' := by
  have hu24 := Try.underlying24
  have HB := Aside0.mk (Below.refl w.heap.size w)
  have H : (if a0 > a1 then (some (0, 0)) else ((bits_Len64.f (Go.bits .xor .u64 a0 a1)).bind fun t183 => (if 0 ≤ (IntKind.u64.wrap (t183)) then (some (Go.bits .andNot .u64 a0 (IntKind.u64.wrap ((shl .u64 1 (IntKind.u64.wrap (t183))) - 1)), IntKind.u64.wrap ((shl .u64 1 (IntKind.u64.wrap (t183))) - 1))) else (none)))) = some (r1, r2) := h
  clear h
  by_cases c3 : a0 > a1
  · rw [if_pos c3] at H
    have c3b0 : decide (a1 < a0) = true := decide_eq_true c3
    clear c3
    simp only [Option.some.injEq, Prod.mk.injEq] at H
    obtain ⟨rfl, rfl⟩ := H
    go_enter Try.func23, Try.ntmps23
    go_wp2_with (first | ((with_reducible refine gate_dst (N := 4) rfl ?_); refine box_event ?hg (N := 4) ?hd (cs := #[.int .u64 0, .int .u64 0]) (t := 24) ?hr ?_; (case hd => rfl); (case hg => rfl); (case hr => first | (go_simp; done) | (go_simp; rfl)); intro gb182 hg w4 hbox hb; have n0_ := Aside0.mk (below_step (by repeat (first | (with_reducible first | exact HB.out | apply below_alloc | apply pw_below_drewN | apply below_drew1) | exact HB.out)) hb); have n1_ := Aside0.mk (hbox); have n2_ := Aside0.mk ((by rw [hg]; exact (below_size (by repeat (first | (with_reducible first | exact HB.out | apply below_alloc | apply pw_below_drewN | apply below_drew1) | exact HB.out))) : w.heap.size ≤ gb182)); have n3_ := Aside0.mk ((by rw [hg]; exact (below_size (by repeat (first | (with_reducible first | exact HB.out | apply below_alloc | apply pw_below_drewN | apply below_drew1) | exact HB.out))) : w.heap.size ≤ gb182)); clear HB; have HB := n0_; have BK182 := n1_; have GW182 := n2_; have GE182 := n3_; clear n0_ n1_ n2_ n3_; clear hb hbox hg; have hcz5_0 : w4.cell? ⟨gb182, 0, none⟩ = some (.int .u64 0) := (blk_cell BK182.out 0).trans rfl; have hcz5_1 : w4.cell? ⟨gb182, 1, none⟩ = some (.int .u64 0) := (blk_cell BK182.out 1).trans rfl; have hfz5_0 := blk_frozen BK182.out 0; have hfz5_1 := blk_frozen BK182.out 1))
    refine bodyPost_ret (results_cell_row rfl _ _ gb182 24 #[.int .u64 0, .int .u64 0] (0, 0) _ rfl (by (with_reducible repeat (first | refine blk_drewN ?_ _ | refine blk_drew ?_ | refine blk_alloc ?_ _)); refine blk_put (cs := #[.int .u64 0, .int .u64 0]) ?_ 1 _ rfl; (with_reducible repeat (first | refine blk_drewN ?_ _ | refine blk_drew ?_ | refine blk_alloc ?_ _)); refine blk_put (cs := #[.int .u64 0, .int .u64 0]) ?_ 0 _ rfl; (with_reducible repeat (first | refine blk_drewN ?_ _ | refine blk_drew ?_ | refine blk_alloc ?_ _)); exact BK182.out) Try.underlying24 rfl (by kernel_rfl)) rfl ?_
    exact ⟨by first | rfl | (simp [errW_none, errW_some] <;> rfl) | (simp [*, errW_none, errW_some] <;> rfl), by repeat (first | (with_reducible first | exact HB.out | apply below_alloc | apply pw_below_drewN | apply below_drew1 | refine below_set ?_ GE182.out) | exact HB.out)⟩
  · rw [if_neg c3] at H
    have c3b0 : decide (a1 < a0) = false := decide_eq_false c3
    clear c3
    replace H := Option.bind_eq_some_iff.mp H
    obtain ⟨t183, A60, H⟩ := H
    replace H : (if 0 ≤ (IntKind.u64.wrap (t183)) then (some (Go.bits .andNot .u64 a0 (IntKind.u64.wrap ((shl .u64 1 (IntKind.u64.wrap (t183))) - 1)), IntKind.u64.wrap ((shl .u64 1 (IntKind.u64.wrap (t183))) - 1))) else (none)) = some (r1, r2) := H
    have A6 := Aside0.mk A60
    clear A60
    obtain ⟨ji7, hji7⟩ : ∃ j_ : Int, (IntKind.u64.wrap (t183)) = j_ := ⟨_, rfl⟩
    replace H : (if 0 ≤ (ji7) then (some (Go.bits .andNot .u64 a0 (IntKind.u64.wrap ((shl .u64 1 (ji7)) - 1)), IntKind.u64.wrap ((shl .u64 1 (ji7)) - 1))) else (none)) = some (r1, r2) := by first | (rw [hji7] at H; exact H) | (simp only [hji7] at H ⊢; exact H)
    (try rw [hji7] at A6)
    by_cases c8 : 0 ≤ (ji7)
    · rw [if_pos c8] at H
      have c8b0 := eq_true c8
      have c8b1 : decide (0 ≤ (ji7)) = true := decide_eq_true c8
      clear c8
      obtain ⟨ji9, hji9⟩ : ∃ j_ : Int, (shl .u64 1 (ji7)) = j_ := ⟨_, rfl⟩
      replace H : (some (Go.bits .andNot .u64 a0 (IntKind.u64.wrap ((ji9) - 1)), IntKind.u64.wrap ((ji9) - 1))) = some (r1, r2) := by first | (rw [hji9] at H; exact H) | (simp only [hji9] at H ⊢; exact H)
      (try rw [hji9] at A6)
      have hji9_ : (IntKind.u64.wrap (1 * 2 ^ min (ji7).toNat 64)) = ji9 := hji9
      have hji9z : (ji7) ≤ 64 → (IntKind.u64.wrap (1 * 2 ^ (ji7).toNat)) = ji9 := shl_small hji9
      have hji9u : (IntKind.u64.wrap (2 ^ min (ji7).toNat 64)) = ji9 := by have h_ := hji9_; rw [Int.one_mul] at h_; exact h_
      have hji9v : (ji7) ≤ 64 → (IntKind.u64.wrap (2 ^ (ji7).toNat)) = ji9 := fun hle_ => by have h_ := hji9z hle_; rw [Int.one_mul] at h_; exact h_
      simp only [Option.some.injEq, Prod.mk.injEq] at H
      obtain ⟨rfl, rfl⟩ := H
      go_enter Try.func23, Try.ntmps23
      go_wp2_with (first | ((with_reducible refine gate_dst (N := 4) rfl ?_); refine box_event ?hg (N := 4) ?hd (cs := #[.int .u64 0, .int .u64 0]) (t := 24) ?hr ?_; (case hd => rfl); (case hg => rfl); (case hr => first | (go_simp; done) | (go_simp; rfl)); intro gb182 hg w10 hbox hb; have n0_ := Aside0.mk (below_step (by repeat (first | (with_reducible first | exact HB.out | apply below_alloc | apply pw_below_drewN | apply below_drew1) | exact HB.out)) hb); have n1_ := Aside0.mk (hbox); have n2_ := Aside0.mk ((by rw [hg]; exact (below_size (by repeat (first | (with_reducible first | exact HB.out | apply below_alloc | apply pw_below_drewN | apply below_drew1) | exact HB.out))) : w.heap.size ≤ gb182)); have n3_ := Aside0.mk ((by rw [hg]; exact (below_size (by repeat (first | (with_reducible first | exact HB.out | apply below_alloc | apply pw_below_drewN | apply below_drew1) | exact HB.out))) : w.heap.size ≤ gb182)); clear HB; have HB := n0_; have BK182 := n1_; have GW182 := n2_; have GE182 := n3_; clear n0_ n1_ n2_ n3_; clear hb hbox hg) | ((with_reducible refine gate_callee (f := 47) rfl ?_); refine goesL_ (some 13) rfl rfl Try.func47 (by kernel_rfl) rfl #[.int .u64 (Go.bits .xor .u64 a0 a1)] rfl (by (try simp only [List.map_toArray, List.map_cons, List.map_nil]); first | done | rfl | (simp only [List.length_drop, List.length_take]; rfl)) ?_; (with_reducible refine (bits_Len64.calls (Go.bits .xor .u64 a0 a1) t183 _ A6.out).mono ?_); rintro e w' ⟨rfl, ⟨nd, rfl⟩⟩; refine ⟨_, rfl, ?_⟩; (try (rw [drewN_self w10]; generalize hq_ : World.drewN w10 _ = w10; have n0_ : Aside0 (w10.heap[gb182]? = some (.cells #[.int .u64 0, .int .u64 0] 24 (0, 0))) := ⟨by rw [← hq_]; exact (by (with_reducible repeat (first | refine blk_drewN ?_ _ | refine blk_drew ?_ | refine blk_alloc ?_ _)); exact BK182.out)⟩; have n1_ : Aside0 (Below w.heap.size w w10) := ⟨by rw [← hq_]; exact (by repeat (first | (with_reducible first | exact HB.out | apply below_alloc | apply pw_below_drewN | apply below_drew1 | refine below_set ?_ GE182.out) | exact HB.out))⟩; clear BK182 HB hq_; have BK182 := n0_; have HB := n1_; clear n0_ n1_)); have hcz11_0 : w10.cell? ⟨gb182, 0, none⟩ = some (.int .u64 0) := (blk_cell BK182.out 0).trans rfl; have hcz11_1 : w10.cell? ⟨gb182, 1, none⟩ = some (.int .u64 0) := (blk_cell BK182.out 1).trans rfl; have hfz11_0 := blk_frozen BK182.out 0; have hfz11_1 := blk_frozen BK182.out 1))
      refine bodyPost_ret (results_cell_row rfl _ _ gb182 24 #[.int .u64 (Go.bits .andNot .u64 a0 (IntKind.u64.wrap ((ji9) - 1))), .int .u64 (IntKind.u64.wrap ((ji9) - 1))] (0, 0) _ rfl (by (with_reducible repeat (first | refine blk_drewN ?_ _ | refine blk_drew ?_ | refine blk_alloc ?_ _)); refine blk_put (cs := #[.int .u64 (Go.bits .andNot .u64 a0 (IntKind.u64.wrap ((ji9) - 1))), .int .u64 0]) ?_ 1 _ rfl; (with_reducible repeat (first | refine blk_drewN ?_ _ | refine blk_drew ?_ | refine blk_alloc ?_ _)); refine blk_put (cs := #[.int .u64 0, .int .u64 0]) ?_ 0 _ rfl; (with_reducible repeat (first | refine blk_drewN ?_ _ | refine blk_drew ?_ | refine blk_alloc ?_ _)); exact BK182.out) Try.underlying24 rfl (by kernel_rfl)) rfl ?_
      exact ⟨by first | rfl | (simp [errW_none, errW_some] <;> rfl) | (simp only [← hji7, ← hji9]; first | rfl | (simp [errW_none, errW_some] <;> rfl)) | (simp [*, errW_none, errW_some] <;> rfl), by repeat (first | (with_reducible first | exact HB.out | apply below_alloc | apply pw_below_drewN | apply below_drew1 | refine below_set ?_ GE182.out) | exact HB.out)⟩
    · rw [if_neg c8] at H
      exact absurd H (by simp)

/-! ### posternlaw14_first: function 13 -/
def posternlaw14_first.f (k : Nat)  : Option (Bool) := (tnum_Do.f k 0 true 0 1 1 0).bind fun bt184 => (if bt184.2.2 = 0 then (if (bt184.1 == 0 && (bt184.2.1 == 3)) = true then ((tnum_Range.f 4 6).bind fun bt188 => (some (bt188.1 == 4 && (bt188.2 == 3)))) else (some false)) else (some false))
theorem posternlaw14_first.mono : ∀ k, LeO (posternlaw14_first.f k ) (posternlaw14_first.f (k + 1) ) := by
  intro  k
  unfold posternlaw14_first.f
  repeat' first
      | (with_reducible exact tnum_Do.mono _ _ _ _ _ _ _)
      | (with_reducible exact LeO.refl _)
      | (with_reducible exact LeO.none _)
      | (with_reducible refine LeO.ite ?_ ?_)
      | (with_reducible refine LeO.bind ?_ (fun _ => ?_))
      | exact tnum_Do.mono _ _ _ _ _ _ _
      | exact LeO.none _
      | refine LeO.ite ?_ ?_
      | refine LeO.bind ?_ (fun _ => ?_)
set_option maxHeartbeats 8000000 in
set_option maxRecDepth 100000 in
theorem posternlaw14_first.calls (k : Nat)  (r : Bool) (w : World) (h : posternlaw14_first.f k  = some r) :
    Calls Try.prog 13 #[] w fun e w' => e = .returned (.bool r) ∧ Below w.heap.size w w' := by
  have hu24 := Try.underlying24
  have HB := Aside0.mk (Below.refl w.heap.size w)
  have H : ((tnum_Do.f k 0 true 0 1 1 0).bind fun bt184 => (if bt184.2.2 = 0 then (if (bt184.1 == 0 && (bt184.2.1 == 3)) = true then ((tnum_Range.f 4 6).bind fun bt188 => (some (bt188.1 == 4 && (bt188.2 == 3)))) else (some false)) else (some false))) = some r := h
  clear h
  replace H := Option.bind_eq_some_iff.mp H
  obtain ⟨⟨t184, t185, t186⟩, A10, H⟩ := H
  replace H : (if t186 = 0 then (if (t184 == 0 && (t185 == 3)) = true then ((tnum_Range.f 4 6).bind fun bt188 => (some (bt188.1 == 4 && (bt188.2 == 3)))) else (some false)) else (some false)) = some r := H
  have A1 := Aside0.mk A10
  clear A10
  by_cases c2 : t186 = 0
  · rw [if_pos c2] at H
    have c2b0 : (t186 == 0) = true := beq_iff_eq.mpr c2
    have c2b1 : (t186 != 0) = false := bne_eq_false_iff_eq.mpr c2
    clear c2
    by_cases c3 : (t184 == 0 && (t185 == 3)) = true
    · rw [if_pos c3] at H
      have c3b0 : (t184 == 0 && (t185 == 3)) = true := c3
      (try (have c3b1 : decide (t184 = 0 && (t185 == 3)) = true := by simpa using c3))
      (try (have c3b2 : (t184 == 0 && (t185 == 3)) = true := by simpa using c3))
      clear c3
      replace H := Option.bind_eq_some_iff.mp H
      obtain ⟨⟨t188, t189⟩, A40, H⟩ := H
      replace H : (some (t188 == 4 && (t189 == 3))) = some r := H
      have A4 := Aside0.mk A40
      clear A40
      obtain rfl := Option.some.inj H
      go_enter Try.func13, Try.ntmps13
      go_wp2_with (first | ((with_reducible refine gate_callee (f := 14) rfl ?_); refine goesL_ (some 6) rfl rfl Try.func14 (by kernel_rfl) rfl #[.int .i64 0, .bool true, .agg #[.int .u64 0, .int .u64 1], .agg #[.int .u64 1, .int .u64 0]] rfl (by (try simp only [List.map_toArray, List.map_cons, List.map_nil]); first | done | rfl | (simp only [List.length_drop, List.length_take]; rfl)) ?_; (with_reducible refine (tnum_Do.calls k 0 true 0 1 1 0 t184 t185 t186 _ A1.out).mono ?_); rintro e w5 ⟨rfl, hb⟩; refine ⟨_, rfl, ?_⟩; have n0_ := Aside0.mk (below_step (by repeat (first | (with_reducible first | exact HB.out | apply below_alloc | apply pw_below_drewN | apply below_drew1) | exact HB.out)) hb); clear HB; have HB := n0_; clear n0_; (try clear hb); (try clear hb2); (try clear hk); (try clear hi)) | ((with_reducible refine gate_dst (N := 1) rfl ?_); refine box_event ?hg (N := 1) ?hd (cs := #[.int .u64 0, .int .u64 0]) (t := 24) ?hr ?_; (case hd => rfl); (case hg => rfl); (case hr => first | (go_simp; done) | (go_simp; rfl)); intro gb187 hg w6 hbox hb; have n0_ := Aside0.mk (below_step (by repeat (first | (with_reducible first | exact HB.out | apply below_alloc | apply pw_below_drewN | apply below_drew1) | exact HB.out)) hb); have n1_ := Aside0.mk (hbox); have n2_ := Aside0.mk ((by rw [hg]; exact (below_size (by repeat (first | (with_reducible first | exact HB.out | apply below_alloc | apply pw_below_drewN | apply below_drew1) | exact HB.out))) : w.heap.size ≤ gb187)); have n3_ := Aside0.mk ((by rw [hg]; exact (below_size (by repeat (first | (with_reducible first | exact HB.out | apply below_alloc | apply pw_below_drewN | apply below_drew1) | exact HB.out))) : w.heap.size ≤ gb187)); clear HB; have HB := n0_; have BK187 := n1_; have GW187 := n2_; have GE187 := n3_; clear n0_ n1_ n2_ n3_; clear hb hbox hg; have hcz7_0 : w6.cell? ⟨gb187, 0, none⟩ = some (.int .u64 0) := (blk_cell BK187.out 0).trans rfl; have hcz7_1 : w6.cell? ⟨gb187, 1, none⟩ = some (.int .u64 0) := (blk_cell BK187.out 1).trans rfl; have hfz7_0 := blk_frozen BK187.out 0; have hfz7_1 := blk_frozen BK187.out 1) | (go_at_call 23; (with_reducible refine (tnum_Range.calls 4 6 t188 t189 _ A4.out).mono ?_); rintro e w8 ⟨rfl, hb⟩; have n0_ := Aside0.mk (blk_below (g := gb187) (o := .cells #[.int .u64 t184, .int .u64 t185] 24 (0, 0)) (by (with_reducible repeat (first | refine blk_drewN ?_ _ | refine blk_drew ?_ | refine blk_alloc ?_ _)); refine blk_put (cs := #[.int .u64 t184, .int .u64 0]) ?_ 1 _ rfl; (with_reducible repeat (first | refine blk_drewN ?_ _ | refine blk_drew ?_ | refine blk_alloc ?_ _)); refine blk_put (cs := #[.int .u64 0, .int .u64 0]) ?_ 0 _ rfl; (with_reducible repeat (first | refine blk_drewN ?_ _ | refine blk_drew ?_ | refine blk_alloc ?_ _)); exact BK187.out) hb); have n1_ := Aside0.mk (below_step (by repeat (first | (with_reducible first | exact HB.out | apply below_alloc | apply pw_below_drewN | apply below_drew1 | refine below_set ?_ GE187.out) | exact HB.out)) hb); clear BK187; clear HB; have BK187 := n0_; have HB := n1_; clear n0_ n1_; (try clear hb); (try clear hb2); (try clear hk); (try clear hi)))
      go_ret
      exact ⟨by first | rfl | (simp [errW_none, errW_some] <;> rfl) | (simp [*, errW_none, errW_some] <;> rfl), by repeat (first | (with_reducible first | exact HB.out | apply below_alloc | apply pw_below_drewN | apply below_drew1 | refine below_set ?_ GE187.out) | exact HB.out)⟩
    · rw [if_neg c3] at H
      have c3b0 : (t184 == 0 && (t185 == 3)) = false := by simpa using c3
      (try (have c3b1 : decide (t184 = 0 && (t185 == 3)) = false := by simpa using c3))
      (try (have c3b2 : (t184 == 0 && (t185 == 3)) = false := by simpa using c3))
      (try (have c3b3 : ¬ (t184 = 0 && (t185 == 3)) := by simpa using c3))
      clear c3
      obtain rfl := Option.some.inj H
      go_enter Try.func13, Try.ntmps13
      go_wp2_with (first | ((with_reducible refine gate_callee (f := 14) rfl ?_); refine goesL_ (some 6) rfl rfl Try.func14 (by kernel_rfl) rfl #[.int .i64 0, .bool true, .agg #[.int .u64 0, .int .u64 1], .agg #[.int .u64 1, .int .u64 0]] rfl (by (try simp only [List.map_toArray, List.map_cons, List.map_nil]); first | done | rfl | (simp only [List.length_drop, List.length_take]; rfl)) ?_; (with_reducible refine (tnum_Do.calls k 0 true 0 1 1 0 t184 t185 t186 _ A1.out).mono ?_); rintro e w9 ⟨rfl, hb⟩; refine ⟨_, rfl, ?_⟩; have n0_ := Aside0.mk (below_step (by repeat (first | (with_reducible first | exact HB.out | apply below_alloc | apply pw_below_drewN | apply below_drew1) | exact HB.out)) hb); clear HB; have HB := n0_; clear n0_; (try clear hb); (try clear hb2); (try clear hk); (try clear hi)) | ((with_reducible refine gate_dst (N := 1) rfl ?_); refine box_event ?hg (N := 1) ?hd (cs := #[.int .u64 0, .int .u64 0]) (t := 24) ?hr ?_; (case hd => rfl); (case hg => rfl); (case hr => first | (go_simp; done) | (go_simp; rfl)); intro gb187 hg w10 hbox hb; have n0_ := Aside0.mk (below_step (by repeat (first | (with_reducible first | exact HB.out | apply below_alloc | apply pw_below_drewN | apply below_drew1) | exact HB.out)) hb); have n1_ := Aside0.mk (hbox); have n2_ := Aside0.mk ((by rw [hg]; exact (below_size (by repeat (first | (with_reducible first | exact HB.out | apply below_alloc | apply pw_below_drewN | apply below_drew1) | exact HB.out))) : w.heap.size ≤ gb187)); have n3_ := Aside0.mk ((by rw [hg]; exact (below_size (by repeat (first | (with_reducible first | exact HB.out | apply below_alloc | apply pw_below_drewN | apply below_drew1) | exact HB.out))) : w.heap.size ≤ gb187)); clear HB; have HB := n0_; have BK187 := n1_; have GW187 := n2_; have GE187 := n3_; clear n0_ n1_ n2_ n3_; clear hb hbox hg; have hcz11_0 : w10.cell? ⟨gb187, 0, none⟩ = some (.int .u64 0) := (blk_cell BK187.out 0).trans rfl; have hcz11_1 : w10.cell? ⟨gb187, 1, none⟩ = some (.int .u64 0) := (blk_cell BK187.out 1).trans rfl; have hfz11_0 := blk_frozen BK187.out 0; have hfz11_1 := blk_frozen BK187.out 1))
      go_ret
      exact ⟨by first | rfl | (simp [errW_none, errW_some] <;> rfl) | (simp [*, errW_none, errW_some] <;> rfl), by repeat (first | (with_reducible first | exact HB.out | apply below_alloc | apply pw_below_drewN | apply below_drew1 | refine below_set ?_ GE187.out) | exact HB.out)⟩
  · rw [if_neg c2] at H
    have c2b0 : (t186 == 0) = false := beq_eq_false_iff_ne.mpr c2
    have c2b1 : (t186 != 0) = true := bne_iff_ne.mpr c2
    obtain rfl := Option.some.inj H
    go_enter Try.func13, Try.ntmps13
    go_wp2_with (first | ((with_reducible refine gate_callee (f := 14) rfl ?_); refine goesL_ (some 6) rfl rfl Try.func14 (by kernel_rfl) rfl #[.int .i64 0, .bool true, .agg #[.int .u64 0, .int .u64 1], .agg #[.int .u64 1, .int .u64 0]] rfl (by (try simp only [List.map_toArray, List.map_cons, List.map_nil]); first | done | rfl | (simp only [List.length_drop, List.length_take]; rfl)) ?_; (with_reducible refine (tnum_Do.calls k 0 true 0 1 1 0 t184 t185 t186 _ A1.out).mono ?_); rintro e w12 ⟨rfl, hb⟩; refine ⟨_, rfl, ?_⟩; have n0_ := Aside0.mk (below_step (by repeat (first | (with_reducible first | exact HB.out | apply below_alloc | apply pw_below_drewN | apply below_drew1) | exact HB.out)) hb); clear HB; have HB := n0_; clear n0_; (try clear hb); (try clear hb2); (try clear hk); (try clear hi)) | ((with_reducible refine gate_dst (N := 1) rfl ?_); refine box_event ?hg (N := 1) ?hd (cs := #[.int .u64 0, .int .u64 0]) (t := 24) ?hr ?_; (case hd => rfl); (case hg => rfl); (case hr => first | (go_simp; done) | (go_simp; rfl)); intro gb187 hg w13 hbox hb; have n0_ := Aside0.mk (below_step (by repeat (first | (with_reducible first | exact HB.out | apply below_alloc | apply pw_below_drewN | apply below_drew1) | exact HB.out)) hb); have n1_ := Aside0.mk (hbox); have n2_ := Aside0.mk ((by rw [hg]; exact (below_size (by repeat (first | (with_reducible first | exact HB.out | apply below_alloc | apply pw_below_drewN | apply below_drew1) | exact HB.out))) : w.heap.size ≤ gb187)); have n3_ := Aside0.mk ((by rw [hg]; exact (below_size (by repeat (first | (with_reducible first | exact HB.out | apply below_alloc | apply pw_below_drewN | apply below_drew1) | exact HB.out))) : w.heap.size ≤ gb187)); clear HB; have HB := n0_; have BK187 := n1_; have GW187 := n2_; have GE187 := n3_; clear n0_ n1_ n2_ n3_; clear hb hbox hg; have hcz14_0 : w13.cell? ⟨gb187, 0, none⟩ = some (.int .u64 0) := (blk_cell BK187.out 0).trans rfl; have hcz14_1 : w13.cell? ⟨gb187, 1, none⟩ = some (.int .u64 0) := (blk_cell BK187.out 1).trans rfl; have hfz14_0 := blk_frozen BK187.out 0; have hfz14_1 := blk_frozen BK187.out 1))
    go_ret
    exact ⟨by first | rfl | (simp [errW_none, errW_some] <;> rfl) | (simp [*, errW_none, errW_some] <;> rfl), by repeat (first | (with_reducible first | exact HB.out | apply below_alloc | apply pw_below_drewN | apply below_drew1 | refine below_set ?_ GE187.out) | exact HB.out)⟩

/-! ### posternlaw14_good: function 18 -/
def posternlaw14_good.f (a0_0 : Int) (a0_1 : Int) : Option (Bool) := some ((Go.bits .and .u64 a0_0 a0_1) == 0)
set_option maxHeartbeats 8000000 in
set_option maxRecDepth 100000 in
theorem posternlaw14_good.calls (a0_0 : Int) (a0_1 : Int) (r : Bool) (w : World) (h : posternlaw14_good.f a0_0 a0_1 = some r) :
    Calls Try.prog 18 #[.agg #[.int .u64 a0_0, .int .u64 a0_1]] w fun e w' => e = .returned (.bool r) ∧ Below w.heap.size w w' := by
  have hu24 := Try.underlying24
  have HB := Aside0.mk (Below.refl w.heap.size w)
  have H : (some ((Go.bits .and .u64 a0_0 a0_1) == 0)) = some r := h
  clear h
  obtain rfl := Option.some.inj H
  go_enter Try.func18, Try.ntmps18
  go_wp2_with (first | ((with_reducible refine gate_dst (N := 1) rfl ?_); refine box_event ?hg (N := 1) ?hd (cs := #[.int .u64 a0_0, .int .u64 a0_1]) (t := 24) ?hr ?_; (case hd => rfl); (case hg => rfl); (case hr => first | (go_simp; done) | (go_simp; rfl)); intro gb190 hg w2 hbox hb; have n0_ := Aside0.mk (below_step (by repeat (first | (with_reducible first | exact HB.out | apply below_alloc | apply pw_below_drewN | apply below_drew1) | exact HB.out)) hb); have n1_ := Aside0.mk (hbox); have n2_ := Aside0.mk ((by rw [hg]; exact (below_size (by repeat (first | (with_reducible first | exact HB.out | apply below_alloc | apply pw_below_drewN | apply below_drew1) | exact HB.out))) : w.heap.size ≤ gb190)); have n3_ := Aside0.mk ((by rw [hg]; exact (below_size (by repeat (first | (with_reducible first | exact HB.out | apply below_alloc | apply pw_below_drewN | apply below_drew1) | exact HB.out))) : w.heap.size ≤ gb190)); clear HB; have HB := n0_; have BK190 := n1_; have GW190 := n2_; have GE190 := n3_; clear n0_ n1_ n2_ n3_; clear hb hbox hg; have hcz3_0 : w2.cell? ⟨gb190, 0, none⟩ = some (.int .u64 a0_0) := (blk_cell BK190.out 0).trans rfl; have hcz3_1 : w2.cell? ⟨gb190, 1, none⟩ = some (.int .u64 a0_1) := (blk_cell BK190.out 1).trans rfl; have hfz3_0 := blk_frozen BK190.out 0; have hfz3_1 := blk_frozen BK190.out 1))
  go_ret
  exact ⟨by first | rfl | (simp [errW_none, errW_some] <;> rfl) | (simp [*, errW_none, errW_some] <;> rfl), by repeat (first | (with_reducible first | exact HB.out | apply below_alloc | apply pw_below_drewN | apply below_drew1 | refine below_set ?_ GE190.out) | exact HB.out)⟩

/-! ### tnum_Has: function 19 -/
def tnum_Has.f (a0_0 : Int) (a0_1 : Int) (a1 : Int) : Option (Bool) := some ((Go.bits .andNot .u64 (Go.bits .xor .u64 a0_0 a1) a0_1) == 0)
set_option maxHeartbeats 8000000 in
set_option maxRecDepth 100000 in
theorem tnum_Has.calls (a0_0 : Int) (a0_1 : Int) (a1 : Int) (r : Bool) (w : World) (h : tnum_Has.f a0_0 a0_1 a1 = some r) :
    Calls Try.prog 19 #[.agg #[.int .u64 a0_0, .int .u64 a0_1], .int .u64 a1] w fun e w' => e = .returned (.bool r) ∧ Below w.heap.size w w' := by
  have hu24 := Try.underlying24
  have HB := Aside0.mk (Below.refl w.heap.size w)
  have H : (some ((Go.bits .andNot .u64 (Go.bits .xor .u64 a0_0 a1) a0_1) == 0)) = some r := h
  clear h
  obtain rfl := Option.some.inj H
  go_enter Try.func19, Try.ntmps19
  go_wp2_with (first | ((with_reducible refine gate_dst (N := 2) rfl ?_); refine box_event ?hg (N := 2) ?hd (cs := #[.int .u64 a0_0, .int .u64 a0_1]) (t := 24) ?hr ?_; (case hd => rfl); (case hg => rfl); (case hr => first | (go_simp; done) | (go_simp; rfl)); intro gb191 hg w3 hbox hb; have n0_ := Aside0.mk (below_step (by repeat (first | (with_reducible first | exact HB.out | apply below_alloc | apply pw_below_drewN | apply below_drew1) | exact HB.out)) hb); have n1_ := Aside0.mk (hbox); have n2_ := Aside0.mk ((by rw [hg]; exact (below_size (by repeat (first | (with_reducible first | exact HB.out | apply below_alloc | apply pw_below_drewN | apply below_drew1) | exact HB.out))) : w.heap.size ≤ gb191)); have n3_ := Aside0.mk ((by rw [hg]; exact (below_size (by repeat (first | (with_reducible first | exact HB.out | apply below_alloc | apply pw_below_drewN | apply below_drew1) | exact HB.out))) : w.heap.size ≤ gb191)); clear HB; have HB := n0_; have BK191 := n1_; have GW191 := n2_; have GE191 := n3_; clear n0_ n1_ n2_ n3_; clear hb hbox hg; have hcz4_0 : w3.cell? ⟨gb191, 0, none⟩ = some (.int .u64 a0_0) := (blk_cell BK191.out 0).trans rfl; have hcz4_1 : w3.cell? ⟨gb191, 1, none⟩ = some (.int .u64 a0_1) := (blk_cell BK191.out 1).trans rfl; have hfz4_0 := blk_frozen BK191.out 0; have hfz4_1 := blk_frozen BK191.out 1))
  go_ret
  exact ⟨by first | rfl | (simp [errW_none, errW_some] <;> rfl) | (simp [*, errW_none, errW_some] <;> rfl), by repeat (first | (with_reducible first | exact HB.out | apply below_alloc | apply pw_below_drewN | apply below_drew1 | refine below_set ?_ GE191.out) | exact HB.out)⟩

/-! ### posternlaw14_TnumRange: function 5 -/
mutual
def posternlaw14_TnumRange.j0 : Nat → Int → Int → Int → Int → Int → Option (Bool)
  | 0, _, _, _, _, _ => none
  | k + 1, x0, x1, x8, x196000, x196001 => (posternlaw14_good.f x196000 x196001).bind fun t196 => (if t196 = true then ((tnum_Has.f x196000 x196001 x0).bind fun t197 => (if t197 = true then ((tnum_Has.f x196000 x196001 x1).bind fun t198 => (if t198 = true then ((tnum_Has.f x196000 x196001 x8).bind fun t199 => (posternlaw14_TnumRange.j1 k x0 x1 (!t199) x196000 x196001)) else (posternlaw14_TnumRange.j1 k x0 x1 true x196000 x196001))) else (posternlaw14_TnumRange.j1 k x0 x1 true x196000 x196001))) else (posternlaw14_TnumRange.j1 k x0 x1 true x196000 x196001))
def posternlaw14_TnumRange.j1 : Nat → Int → Int → Bool → Int → Int → Option (Bool)
  | 0, _, _, _, _, _ => none
  | k + 1, x0, x1, x55, x196000, x196001 => if x55 = true then (some false) else (posternlaw14_TnumRange.l0 k x0 x1 18446744073709551615 63 x196000 x196001)
def posternlaw14_TnumRange.l0 : Nat → Int → Int → Int → Int → Int → Int → Option (Bool)
  | 0, _, _, _, _, _, _ => none
  | k + 1, x0, x1, x9, x10, x196000, x196001 => if x10 ≥ 0 then (if 0 ≤ (IntKind.u64.wrap (x10)) then (if (Go.bits .and .u64 (shr .u64 (Go.bits .xor .u64 x0 x1) (IntKind.u64.wrap (x10))) 1) = 1 then (if 0 ≤ (IntKind.u64.wrap (wrap64 (x10 + 1))) then (if x10 = 63 then (if x196001 = (Go.bits .xor .u64 18446744073709551615 0) then (some (x196000 == (Go.bits .and .u64 x0 0))) else (some false)) else (if x196001 = (Go.bits .xor .u64 18446744073709551615 (Go.bits .xor .u64 18446744073709551615 (IntKind.u64.wrap ((shl .u64 1 (IntKind.u64.wrap (wrap64 (x10 + 1)))) - 1)))) then (some (x196000 == (Go.bits .and .u64 x0 (Go.bits .xor .u64 18446744073709551615 (IntKind.u64.wrap ((shl .u64 1 (IntKind.u64.wrap (wrap64 (x10 + 1)))) - 1)))))) else (some false))) else (none)) else (posternlaw14_TnumRange.l0 k x0 x1 x9 (wrap64 (x10 - 1)) x196000 x196001)) else (none)) else (if x196001 = (Go.bits .xor .u64 18446744073709551615 x9) then (some (x196000 == (Go.bits .and .u64 x0 x9))) else (some false))
end
def posternlaw14_TnumRange.f (k : Nat) (a0 : Int) (a1 : Int) (a2 : Int) : Option (Bool) := (posternlaw14_first.f k).bind fun t192 => (if t192 = true then ((tnum_Range.f a0 a1).bind fun bt193 => (if a0 > a1 then (some (bt193.1 == 0 && (bt193.2 == 0))) else (if (IntKind.u64.wrap (a1 - a0)) < 18446744073709551615 then (if (IntKind.u64.wrap ((IntKind.u64.wrap (a1 - a0)) + 1)) = 0 then (none) else (posternlaw14_TnumRange.j0 k a0 a1 (IntKind.u64.wrap (a0 + (Int.tmod a2 (IntKind.u64.wrap ((IntKind.u64.wrap (a1 - a0)) + 1))))) bt193.1 bt193.2)) else (posternlaw14_TnumRange.j0 k a0 a1 a2 bt193.1 bt193.2)))) else (some false))
theorem posternlaw14_TnumRange.mono_l : ∀ k, (∀ y0 y1 y2 y3 y4, LeO (posternlaw14_TnumRange.j0 k y0 y1 y2 y3 y4) (posternlaw14_TnumRange.j0 (k + 1) y0 y1 y2 y3 y4)) ∧ (∀ y0 y1 y2 y3 y4, LeO (posternlaw14_TnumRange.j1 k y0 y1 y2 y3 y4) (posternlaw14_TnumRange.j1 (k + 1) y0 y1 y2 y3 y4)) ∧ (∀ y0 y1 y2 y3 y4 y5, LeO (posternlaw14_TnumRange.l0 k y0 y1 y2 y3 y4 y5) (posternlaw14_TnumRange.l0 (k + 1) y0 y1 y2 y3 y4 y5))
  | 0 => ⟨fun _ _ _ _ _ r h => by simp [posternlaw14_TnumRange.j0] at h, fun _ _ _ _ _ r h => by simp [posternlaw14_TnumRange.j1] at h, fun _ _ _ _ _ _ r h => by simp [posternlaw14_TnumRange.l0] at h⟩
  | k + 1 => by
    obtain ⟨ih0, ih1, ih2⟩ := posternlaw14_TnumRange.mono_l k
    refine ⟨?_, ?_, ?_⟩
    · intro y0 y1 y2 y3 y4
      unfold posternlaw14_TnumRange.j0
      repeat' first
      | (with_reducible exact ih0 _ _ _ _ _)
      | (with_reducible exact ih1 _ _ _ _ _)
      | (with_reducible exact ih2 _ _ _ _ _ _)
      | (with_reducible exact posternlaw14_first.mono _)
      | (with_reducible exact LeO.refl _)
      | (with_reducible exact LeO.none _)
      | (with_reducible refine LeO.ite ?_ ?_)
      | (with_reducible refine LeO.bind ?_ (fun _ => ?_))
      | exact ih0 _ _ _ _ _
      | exact ih1 _ _ _ _ _
      | exact ih2 _ _ _ _ _ _
      | exact posternlaw14_first.mono _
      | exact LeO.none _
      | refine LeO.ite ?_ ?_
      | refine LeO.bind ?_ (fun _ => ?_)
    · intro y0 y1 y2 y3 y4
      unfold posternlaw14_TnumRange.j1
      repeat' first
      | (with_reducible exact ih0 _ _ _ _ _)
      | (with_reducible exact ih1 _ _ _ _ _)
      | (with_reducible exact ih2 _ _ _ _ _ _)
      | (with_reducible exact posternlaw14_first.mono _)
      | (with_reducible exact LeO.refl _)
      | (with_reducible exact LeO.none _)
      | (with_reducible refine LeO.ite ?_ ?_)
      | (with_reducible refine LeO.bind ?_ (fun _ => ?_))
      | exact ih0 _ _ _ _ _
      | exact ih1 _ _ _ _ _
      | exact ih2 _ _ _ _ _ _
      | exact posternlaw14_first.mono _
      | exact LeO.none _
      | refine LeO.ite ?_ ?_
      | refine LeO.bind ?_ (fun _ => ?_)
    · intro y0 y1 y2 y3 y4 y5
      unfold posternlaw14_TnumRange.l0
      repeat' first
      | (with_reducible exact ih0 _ _ _ _ _)
      | (with_reducible exact ih1 _ _ _ _ _)
      | (with_reducible exact ih2 _ _ _ _ _ _)
      | (with_reducible exact posternlaw14_first.mono _)
      | (with_reducible exact LeO.refl _)
      | (with_reducible exact LeO.none _)
      | (with_reducible refine LeO.ite ?_ ?_)
      | (with_reducible refine LeO.bind ?_ (fun _ => ?_))
      | exact ih0 _ _ _ _ _
      | exact ih1 _ _ _ _ _
      | exact ih2 _ _ _ _ _ _
      | exact posternlaw14_first.mono _
      | exact LeO.none _
      | refine LeO.ite ?_ ?_
      | refine LeO.bind ?_ (fun _ => ?_)
theorem posternlaw14_TnumRange.mono : ∀ a0 a1 a2 k, LeO (posternlaw14_TnumRange.f k a0 a1 a2) (posternlaw14_TnumRange.f (k + 1) a0 a1 a2) := by
  intro a0 a1 a2 k
  obtain ⟨ih0, ih1, ih2⟩ := posternlaw14_TnumRange.mono_l k
  unfold posternlaw14_TnumRange.f
  repeat' first
      | (with_reducible exact ih0 _ _ _ _ _)
      | (with_reducible exact ih1 _ _ _ _ _)
      | (with_reducible exact ih2 _ _ _ _ _ _)
      | (with_reducible exact posternlaw14_first.mono _)
      | (with_reducible exact LeO.refl _)
      | (with_reducible exact LeO.none _)
      | (with_reducible refine LeO.ite ?_ ?_)
      | (with_reducible refine LeO.bind ?_ (fun _ => ?_))
      | exact ih0 _ _ _ _ _
      | exact ih1 _ _ _ _ _
      | exact ih2 _ _ _ _ _ _
      | exact posternlaw14_first.mono _
      | exact LeO.none _
      | refine LeO.ite ?_ ?_
      | refine LeO.bind ?_ (fun _ => ?_)
set_option maxHeartbeats 8000000 in
set_option maxRecDepth 100000 in
theorem posternlaw14_TnumRange.calls (k : Nat) (a0 : Int) (a1 : Int) (a2 : Int) (r : Bool) (w : World) (hr_ : Aside0 (r = true)) (h : posternlaw14_TnumRange.f k a0 a1 a2 = some r) :
    Calls Try.prog 5 #[.int .u64 a0, .int .u64 a1, .int .u64 a2] w fun e w' => e = .returned (.bool r) ∧ Below w.heap.size w w' := by
  have hu24 := Try.underlying24
  have HB := Aside0.mk (Below.refl w.heap.size w)
  have H : ((posternlaw14_first.f k).bind fun t192 => (if t192 = true then ((tnum_Range.f a0 a1).bind fun bt193 => (if a0 > a1 then (some (bt193.1 == 0 && (bt193.2 == 0))) else (if (IntKind.u64.wrap (a1 - a0)) < 18446744073709551615 then (if (IntKind.u64.wrap ((IntKind.u64.wrap (a1 - a0)) + 1)) = 0 then (none) else (posternlaw14_TnumRange.j0 k a0 a1 (IntKind.u64.wrap (a0 + (Int.tmod a2 (IntKind.u64.wrap ((IntKind.u64.wrap (a1 - a0)) + 1))))) bt193.1 bt193.2)) else (posternlaw14_TnumRange.j0 k a0 a1 a2 bt193.1 bt193.2)))) else (some false))) = some r := h
  clear h
  replace H := Option.bind_eq_some_iff.mp H
  obtain ⟨t192, A40, H⟩ := H
  replace H : (if t192 = true then ((tnum_Range.f a0 a1).bind fun bt193 => (if a0 > a1 then (some (bt193.1 == 0 && (bt193.2 == 0))) else (if (IntKind.u64.wrap (a1 - a0)) < 18446744073709551615 then (if (IntKind.u64.wrap ((IntKind.u64.wrap (a1 - a0)) + 1)) = 0 then (none) else (posternlaw14_TnumRange.j0 k a0 a1 (IntKind.u64.wrap (a0 + (Int.tmod a2 (IntKind.u64.wrap ((IntKind.u64.wrap (a1 - a0)) + 1))))) bt193.1 bt193.2)) else (posternlaw14_TnumRange.j0 k a0 a1 a2 bt193.1 bt193.2)))) else (some false)) = some r := H
  have A4 := Aside0.mk A40
  clear A40
  by_cases c5 : t192 = true
  · subst c5
    have H1 : ((tnum_Range.f a0 a1).bind fun bt193 => (if a0 > a1 then (some (bt193.1 == 0 && (bt193.2 == 0))) else (if (IntKind.u64.wrap (a1 - a0)) < 18446744073709551615 then (if (IntKind.u64.wrap ((IntKind.u64.wrap (a1 - a0)) + 1)) = 0 then (none) else (posternlaw14_TnumRange.j0 k a0 a1 (IntKind.u64.wrap (a0 + (Int.tmod a2 (IntKind.u64.wrap ((IntKind.u64.wrap (a1 - a0)) + 1))))) bt193.1 bt193.2)) else (posternlaw14_TnumRange.j0 k a0 a1 a2 bt193.1 bt193.2)))) = some r := by rw [if_pos rfl] at H; exact H
    clear H
    have H := H1
    clear H1
    replace H := Option.bind_eq_some_iff.mp H
    obtain ⟨⟨t193, t194⟩, A60, H⟩ := H
    replace H : (if a0 > a1 then (some (t193 == 0 && (t194 == 0))) else (if (IntKind.u64.wrap (a1 - a0)) < 18446744073709551615 then (if (IntKind.u64.wrap ((IntKind.u64.wrap (a1 - a0)) + 1)) = 0 then (none) else (posternlaw14_TnumRange.j0 k a0 a1 (IntKind.u64.wrap (a0 + (Int.tmod a2 (IntKind.u64.wrap ((IntKind.u64.wrap (a1 - a0)) + 1))))) t193 t194)) else (posternlaw14_TnumRange.j0 k a0 a1 a2 t193 t194))) = some r := H
    have A6 := Aside0.mk A60
    clear A60
    by_cases c7 : a0 > a1
    · rw [if_pos c7] at H
      have c7b0 : decide (a1 < a0) = true := decide_eq_true c7
      clear c7
      obtain rfl := Option.some.inj H
      go_enter Try.func5, Try.ntmps5
      go_wp2_with (first | ((with_reducible refine gate_callee (f := 13) rfl ?_); refine goesL_ (some 11) rfl rfl Try.func13 (by kernel_rfl) rfl #[] rfl (by (try simp only [List.map_toArray, List.map_cons, List.map_nil]); first | done | rfl | (simp only [List.length_drop, List.length_take]; rfl)) ?_; (with_reducible refine (posternlaw14_first.calls k  true _ A4.out).mono ?_); rintro e w8 ⟨rfl, hb⟩; refine ⟨_, rfl, ?_⟩; have n0_ := Aside0.mk (below_step (by repeat (first | (with_reducible first | exact HB.out | apply below_alloc | apply pw_below_drewN | apply below_drew1) | exact HB.out)) hb); clear HB; have HB := n0_; clear n0_; (try clear hb); (try clear hb2); (try clear hk); (try clear hi)) | ((with_reducible refine gate_callee (f := 23) rfl ?_); refine goesL_ (some 15) rfl rfl Try.func23 (by kernel_rfl) rfl #[.int .u64 a0, .int .u64 a1] rfl (by (try simp only [List.map_toArray, List.map_cons, List.map_nil]); first | done | rfl | (simp only [List.length_drop, List.length_take]; rfl)) ?_; (with_reducible refine (tnum_Range.calls a0 a1 t193 t194 _ A6.out).mono ?_); rintro e w9 ⟨rfl, hb⟩; refine ⟨_, rfl, ?_⟩; have n0_ := Aside0.mk (below_step (by repeat (first | (with_reducible first | exact HB.out | apply below_alloc | apply pw_below_drewN | apply below_drew1) | exact HB.out)) hb); clear HB; have HB := n0_; clear n0_; (try clear hb); (try clear hb2); (try clear hk); (try clear hi)) | ((with_reducible refine gate_dst (N := 7) rfl ?_); refine box_event ?hg (N := 7) ?hd (cs := #[.int .u64 0, .int .u64 0]) (t := 24) ?hr ?_; (case hd => rfl); (case hg => rfl); (case hr => first | (go_simp; done) | (go_simp; rfl)); intro gb195 hg w10 hbox hb; have n0_ := Aside0.mk (below_step (by repeat (first | (with_reducible first | exact HB.out | apply below_alloc | apply pw_below_drewN | apply below_drew1) | exact HB.out)) hb); have n1_ := Aside0.mk (hbox); have n2_ := Aside0.mk ((by rw [hg]; exact (below_size (by repeat (first | (with_reducible first | exact HB.out | apply below_alloc | apply pw_below_drewN | apply below_drew1) | exact HB.out))) : w.heap.size ≤ gb195)); have n3_ := Aside0.mk ((by rw [hg]; exact (below_size (by repeat (first | (with_reducible first | exact HB.out | apply below_alloc | apply pw_below_drewN | apply below_drew1) | exact HB.out))) : w.heap.size ≤ gb195)); clear HB; have HB := n0_; have BK195 := n1_; have GW195 := n2_; have GE195 := n3_; clear n0_ n1_ n2_ n3_; clear hb hbox hg; have hcz11_0 : w10.cell? ⟨gb195, 0, none⟩ = some (.int .u64 0) := (blk_cell BK195.out 0).trans rfl; have hcz11_1 : w10.cell? ⟨gb195, 1, none⟩ = some (.int .u64 0) := (blk_cell BK195.out 1).trans rfl; have hfz11_0 := blk_frozen BK195.out 0; have hfz11_1 := blk_frozen BK195.out 1))
      go_ret
      exact ⟨by first | rfl | (simp [errW_none, errW_some] <;> rfl) | (simp [*, errW_none, errW_some] <;> rfl), by repeat (first | (with_reducible first | exact HB.out | apply below_alloc | apply pw_below_drewN | apply below_drew1 | refine below_set ?_ GE195.out) | exact HB.out)⟩
    · rw [if_neg c7] at H
      have c7b0 : decide (a1 < a0) = false := decide_eq_false c7
      clear c7
      have HC12 := Aside0.mk H
      clear H
      go_enter Try.func5, Try.ntmps5
      go_upto_if 26 with (first | ((with_reducible refine gate_callee (f := 13) rfl ?_); refine goesL_ (some 11) rfl rfl Try.func13 (by kernel_rfl) rfl #[] rfl (by (try simp only [List.map_toArray, List.map_cons, List.map_nil]); first | done | rfl | (simp only [List.length_drop, List.length_take]; rfl)) ?_; (with_reducible refine (posternlaw14_first.calls k  true _ A4.out).mono ?_); rintro e w13 ⟨rfl, hb⟩; refine ⟨_, rfl, ?_⟩; have n0_ := Aside0.mk (below_step (by repeat (first | (with_reducible first | exact HB.out | apply below_alloc | apply pw_below_drewN | apply below_drew1) | exact HB.out)) hb); clear HB; have HB := n0_; clear n0_; (try clear hb); (try clear hb2); (try clear hk); (try clear hi)) | ((with_reducible refine gate_callee (f := 23) rfl ?_); refine goesL_ (some 15) rfl rfl Try.func23 (by kernel_rfl) rfl #[.int .u64 a0, .int .u64 a1] rfl (by (try simp only [List.map_toArray, List.map_cons, List.map_nil]); first | done | rfl | (simp only [List.length_drop, List.length_take]; rfl)) ?_; (with_reducible refine (tnum_Range.calls a0 a1 t193 t194 _ A6.out).mono ?_); rintro e w14 ⟨rfl, hb⟩; refine ⟨_, rfl, ?_⟩; have n0_ := Aside0.mk (below_step (by repeat (first | (with_reducible first | exact HB.out | apply below_alloc | apply pw_below_drewN | apply below_drew1) | exact HB.out)) hb); clear HB; have HB := n0_; clear n0_; (try clear hb); (try clear hb2); (try clear hk); (try clear hi)) | ((with_reducible refine gate_dst (N := 7) rfl ?_); refine box_event ?hg (N := 7) ?hd (cs := #[.int .u64 0, .int .u64 0]) (t := 24) ?hr ?_; (case hd => rfl); (case hg => rfl); (case hr => first | (go_simp; done) | (go_simp; rfl)); intro gb195 hg w15 hbox hb; have n0_ := Aside0.mk (below_step (by repeat (first | (with_reducible first | exact HB.out | apply below_alloc | apply pw_below_drewN | apply below_drew1) | exact HB.out)) hb); have n1_ := Aside0.mk (hbox); have n2_ := Aside0.mk ((by rw [hg]; exact (below_size (by repeat (first | (with_reducible first | exact HB.out | apply below_alloc | apply pw_below_drewN | apply below_drew1) | exact HB.out))) : w.heap.size ≤ gb195)); have n3_ := Aside0.mk ((by rw [hg]; exact (below_size (by repeat (first | (with_reducible first | exact HB.out | apply below_alloc | apply pw_below_drewN | apply below_drew1) | exact HB.out))) : w.heap.size ≤ gb195)); clear HB; have HB := n0_; have BK195 := n1_; have GW195 := n2_; have GE195 := n3_; clear n0_ n1_ n2_ n3_; clear hb hbox hg; have hcz16_0 : w15.cell? ⟨gb195, 0, none⟩ = some (.int .u64 0) := (blk_cell BK195.out 0).trans rfl; have hcz16_1 : w15.cell? ⟨gb195, 1, none⟩ = some (.int .u64 0) := (blk_cell BK195.out 1).trans rfl; have hfz16_0 := blk_frozen BK195.out 0; have hfz16_1 := blk_frozen BK195.out 1))
      (try simp only [Act.put, List.setIfInBounds_toArray, List.set_cons_zero, List.set_cons_succ])
      go_cut [8] (fun v8 wc => ∃ (kq : Nat) (x8_11 : Int), v8 = .int .u64 x8_11 ∧ Aside0 (posternlaw14_TnumRange.j0 kq a0 a1 x8_11 t193 t194 = some r) ∧ Aside0 (kq ≤ k) ∧ Aside0 (wc.heap[gb195]? = some (.cells #[.int .u64 t193, .int .u64 t194] 24 (0, 0))) ∧ Aside0 (Below w.heap.size w wc))
      case first =>
        have H := HC12.out
        clear HC12
        by_cases c17 : (IntKind.u64.wrap (a1 - a0)) < 18446744073709551615
        · rw [if_pos c17] at H
          have c17b0 : decide ((IntKind.u64.wrap (a1 - a0)) < 18446744073709551615) = true := decide_eq_true c17
          clear c17
          (first | rw [c17b0] | (simp only [i64_w, i32_w]; rw [c17b0]) | skip)
          by_cases c18 : (IntKind.u64.wrap ((IntKind.u64.wrap (a1 - a0)) + 1)) = 0
          · rw [if_pos c18] at H
            exact absurd H (by simp)
          · rw [if_neg c18] at H
            have c18b0 : ((IntKind.u64.wrap ((IntKind.u64.wrap (a1 - a0)) + 1)) == 0) = false := beq_eq_false_iff_ne.mpr c18
            have c18b1 : ((IntKind.u64.wrap ((IntKind.u64.wrap (a1 - a0)) + 1)) != 0) = true := bne_iff_ne.mpr c18
            have H' := Aside0.mk H
            clear H
            go_wp2
            go_meet
            case rel => exact ⟨_, (IntKind.u64.wrap (a0 + (Int.tmod a2 (IntKind.u64.wrap ((IntKind.u64.wrap (a1 - a0)) + 1))))), (by first | rfl | (simp; done) | (simp [*]; done)), H', ⟨by first | omega | exact Nat.le_refl _⟩, ⟨by (with_reducible repeat (first | refine blk_drewN ?_ _ | refine blk_drew ?_ | refine blk_alloc ?_ _)); refine blk_put (cs := #[.int .u64 t193, .int .u64 0]) ?_ 1 _ rfl; (with_reducible repeat (first | refine blk_drewN ?_ _ | refine blk_drew ?_ | refine blk_alloc ?_ _)); refine blk_put (cs := #[.int .u64 0, .int .u64 0]) ?_ 0 _ rfl; (with_reducible repeat (first | refine blk_drewN ?_ _ | refine blk_drew ?_ | refine blk_alloc ?_ _)); exact BK195.out⟩, ⟨by repeat (first | (with_reducible first | exact HB.out | apply below_alloc | apply pw_below_drewN | apply below_drew1 | refine below_set ?_ GE195.out) | exact HB.out)⟩⟩
        · rw [if_neg c17] at H
          have c17b0 : decide ((IntKind.u64.wrap (a1 - a0)) < 18446744073709551615) = false := decide_eq_false c17
          clear c17
          (first | rw [c17b0] | (simp only [i64_w, i32_w]; rw [c17b0]) | skip)
          have H' := Aside0.mk H
          clear H
          go_wp2
          go_meet
          case rel => exact ⟨_, (a2), (by first | rfl | (simp; done) | (simp [*]; done)), H', ⟨by first | omega | exact Nat.le_refl _⟩, ⟨by (with_reducible repeat (first | refine blk_drewN ?_ _ | refine blk_drew ?_ | refine blk_alloc ?_ _)); refine blk_put (cs := #[.int .u64 t193, .int .u64 0]) ?_ 1 _ rfl; (with_reducible repeat (first | refine blk_drewN ?_ _ | refine blk_drew ?_ | refine blk_alloc ?_ _)); refine blk_put (cs := #[.int .u64 0, .int .u64 0]) ?_ 0 _ rfl; (with_reducible repeat (first | refine blk_drewN ?_ _ | refine blk_drew ?_ | refine blk_alloc ?_ _)); exact BK195.out⟩, ⟨by repeat (first | (with_reducible first | exact HB.out | apply below_alloc | apply pw_below_drewN | apply below_drew1 | refine below_set ?_ GE195.out) | exact HB.out)⟩⟩
      case rest =>
        clear HC12
        try clear c1
        try clear c2
        try clear p2
        try clear c5
        try clear c7
        try clear c7b0
        try clear c13
        try clear c17
        try clear c17b0
        try clear c18
        try clear c18b0
        try clear c18b1
        try clear hcz11_0
        try clear hcz11_1
        try clear hcz16_0
        try clear hcz16_1
        try clear hfz11_0
        try clear hfz11_1
        try clear hfz16_0
        try clear hfz16_1
        obtain ⟨kq, x8_11, rfl, HA, HJ11, BK195, HB⟩ := hcut
        cases kq with
        | zero => exact absurd HA.out (by simp [posternlaw14_TnumRange.j0])
        | succ kj11 =>
          have H := HA.out
          clear HA
          simp only [posternlaw14_TnumRange.j0] at H
          have HC19 := Aside0.mk H
          clear H
          go_upto_region 9 with (fail)
          go_cut [55] (fun v55 wc => ∃ (kq : Nat) (x55_18 : Bool), v55 = .bool x55_18 ∧ Aside0 (posternlaw14_TnumRange.j1 kq a0 a1 x55_18 t193 t194 = some r) ∧ Aside0 (kq ≤ kj11) ∧ Aside0 (wc.heap[gb195]? = some (.cells #[.int .u64 t193, .int .u64 t194] 24 (0, 0))) ∧ Aside0 (Below w.heap.size w wc))
          case first =>
            have H := HC19.out
            clear HC19
            replace H := Option.bind_eq_some_iff.mp H
            obtain ⟨t196, A200, H⟩ := H
            replace H : (if t196 = true then ((tnum_Has.f t193 t194 a0).bind fun t197 => (if t197 = true then ((tnum_Has.f t193 t194 a1).bind fun t198 => (if t198 = true then ((tnum_Has.f t193 t194 x8_11).bind fun t199 => (posternlaw14_TnumRange.j1 kj11 a0 a1 (!t199) t193 t194)) else (posternlaw14_TnumRange.j1 kj11 a0 a1 true t193 t194))) else (posternlaw14_TnumRange.j1 kj11 a0 a1 true t193 t194))) else (posternlaw14_TnumRange.j1 kj11 a0 a1 true t193 t194)) = some r := H
            have A20 := Aside0.mk A200
            clear A200
            by_cases c21 : t196 = true
            · subst c21
              have H1 : ((tnum_Has.f t193 t194 a0).bind fun t197 => (if t197 = true then ((tnum_Has.f t193 t194 a1).bind fun t198 => (if t198 = true then ((tnum_Has.f t193 t194 x8_11).bind fun t199 => (posternlaw14_TnumRange.j1 kj11 a0 a1 (!t199) t193 t194)) else (posternlaw14_TnumRange.j1 kj11 a0 a1 true t193 t194))) else (posternlaw14_TnumRange.j1 kj11 a0 a1 true t193 t194))) = some r := by rw [if_pos rfl] at H; exact H
              clear H
              have H := H1
              clear H1
              replace H := Option.bind_eq_some_iff.mp H
              obtain ⟨t197, A220, H⟩ := H
              replace H : (if t197 = true then ((tnum_Has.f t193 t194 a1).bind fun t198 => (if t198 = true then ((tnum_Has.f t193 t194 x8_11).bind fun t199 => (posternlaw14_TnumRange.j1 kj11 a0 a1 (!t199) t193 t194)) else (posternlaw14_TnumRange.j1 kj11 a0 a1 true t193 t194))) else (posternlaw14_TnumRange.j1 kj11 a0 a1 true t193 t194)) = some r := H
              have A22 := Aside0.mk A220
              clear A220
              by_cases c23 : t197 = true
              · subst c23
                have H1 : ((tnum_Has.f t193 t194 a1).bind fun t198 => (if t198 = true then ((tnum_Has.f t193 t194 x8_11).bind fun t199 => (posternlaw14_TnumRange.j1 kj11 a0 a1 (!t199) t193 t194)) else (posternlaw14_TnumRange.j1 kj11 a0 a1 true t193 t194))) = some r := by rw [if_pos rfl] at H; exact H
                clear H
                have H := H1
                clear H1
                replace H := Option.bind_eq_some_iff.mp H
                obtain ⟨t198, A240, H⟩ := H
                replace H : (if t198 = true then ((tnum_Has.f t193 t194 x8_11).bind fun t199 => (posternlaw14_TnumRange.j1 kj11 a0 a1 (!t199) t193 t194)) else (posternlaw14_TnumRange.j1 kj11 a0 a1 true t193 t194)) = some r := H
                have A24 := Aside0.mk A240
                clear A240
                by_cases c25 : t198 = true
                · subst c25
                  have H1 : ((tnum_Has.f t193 t194 x8_11).bind fun t199 => (posternlaw14_TnumRange.j1 kj11 a0 a1 (!t199) t193 t194)) = some r := by rw [if_pos rfl] at H; exact H
                  clear H
                  have H := H1
                  clear H1
                  replace H := Option.bind_eq_some_iff.mp H
                  obtain ⟨t199, A260, H⟩ := H
                  replace H : (posternlaw14_TnumRange.j1 kj11 a0 a1 (!t199) t193 t194) = some r := H
                  have A26 := Aside0.mk A260
                  clear A260
                  have H' := Aside0.mk H
                  clear H
                  have hcz27_0 : wc.cell? ⟨gb195, 0, none⟩ = some (.int .u64 t193) := (blk_cell BK195.out 0).trans rfl
                  have hcz27_1 : wc.cell? ⟨gb195, 1, none⟩ = some (.int .u64 t194) := (blk_cell BK195.out 1).trans rfl
                  have hfz27_0 := blk_frozen BK195.out 0
                  have hfz27_1 := blk_frozen BK195.out 1
                  go_wp2_with (first | ((with_reducible refine gate_callee (f := 18) rfl ?_); refine goesL_ (some 36) rfl rfl Try.func18 (by kernel_rfl) rfl #[.agg #[.int .u64 t193, .int .u64 t194]] rfl (by (try simp only [List.map_toArray, List.map_cons, List.map_nil]); first | done | rfl | (simp only [List.length_drop, List.length_take]; rfl)) ?_; (with_reducible refine (posternlaw14_good.calls t193 t194 true _ A20.out).mono ?_); rintro e w28 ⟨rfl, hb⟩; refine ⟨_, rfl, ?_⟩; have n0_ := Aside0.mk (blk_below (g := gb195) (o := .cells #[.int .u64 t193, .int .u64 t194] 24 (0, 0)) (by (with_reducible repeat (first | refine blk_drewN ?_ _ | refine blk_drew ?_ | refine blk_alloc ?_ _)); exact BK195.out) hb); have n1_ := Aside0.mk (below_step (by repeat (first | (with_reducible first | exact HB.out | apply below_alloc | apply pw_below_drewN | apply below_drew1 | refine below_set ?_ GE195.out) | exact HB.out)) hb); clear BK195; clear HB; have BK195 := n0_; have HB := n1_; clear n0_ n1_; (try clear hb); (try clear hb2); (try clear hk); (try clear hi); have hcz29_0 : w28.cell? ⟨gb195, 0, none⟩ = some (.int .u64 t193) := (blk_cell BK195.out 0).trans rfl; have hcz29_1 : w28.cell? ⟨gb195, 1, none⟩ = some (.int .u64 t194) := (blk_cell BK195.out 1).trans rfl; have hfz29_0 := blk_frozen BK195.out 0; have hfz29_1 := blk_frozen BK195.out 1) | (go_at_call 19; (with_reducible refine (tnum_Has.calls t193 t194 a0 true _ A22.out).mono ?_); rintro e w30 ⟨rfl, hb⟩; have n0_ := Aside0.mk (blk_below (g := gb195) (o := .cells #[.int .u64 t193, .int .u64 t194] 24 (0, 0)) (by (with_reducible repeat (first | refine blk_drewN ?_ _ | refine blk_drew ?_ | refine blk_alloc ?_ _)); exact BK195.out) hb); have n1_ := Aside0.mk (below_step (by repeat (first | (with_reducible first | exact HB.out | apply below_alloc | apply pw_below_drewN | apply below_drew1 | refine below_set ?_ GE195.out) | exact HB.out)) hb); clear BK195; clear HB; have BK195 := n0_; have HB := n1_; clear n0_ n1_; (try clear hb); (try clear hb2); (try clear hk); (try clear hi); have hcz31_0 : w30.cell? ⟨gb195, 0, none⟩ = some (.int .u64 t193) := (blk_cell BK195.out 0).trans rfl; have hcz31_1 : w30.cell? ⟨gb195, 1, none⟩ = some (.int .u64 t194) := (blk_cell BK195.out 1).trans rfl; have hfz31_0 := blk_frozen BK195.out 0; have hfz31_1 := blk_frozen BK195.out 1) | (go_at_call 19; (with_reducible refine (tnum_Has.calls t193 t194 a1 true _ A24.out).mono ?_); rintro e w32 ⟨rfl, hb⟩; have n0_ := Aside0.mk (blk_below (g := gb195) (o := .cells #[.int .u64 t193, .int .u64 t194] 24 (0, 0)) (by (with_reducible repeat (first | refine blk_drewN ?_ _ | refine blk_drew ?_ | refine blk_alloc ?_ _)); exact BK195.out) hb); have n1_ := Aside0.mk (below_step (by repeat (first | (with_reducible first | exact HB.out | apply below_alloc | apply pw_below_drewN | apply below_drew1 | refine below_set ?_ GE195.out) | exact HB.out)) hb); clear BK195; clear HB; have BK195 := n0_; have HB := n1_; clear n0_ n1_; (try clear hb); (try clear hb2); (try clear hk); (try clear hi); have hcz33_0 : w32.cell? ⟨gb195, 0, none⟩ = some (.int .u64 t193) := (blk_cell BK195.out 0).trans rfl; have hcz33_1 : w32.cell? ⟨gb195, 1, none⟩ = some (.int .u64 t194) := (blk_cell BK195.out 1).trans rfl; have hfz33_0 := blk_frozen BK195.out 0; have hfz33_1 := blk_frozen BK195.out 1) | (go_at_call 19; (with_reducible refine (tnum_Has.calls t193 t194 x8_11 t199 _ A26.out).mono ?_); rintro e w34 ⟨rfl, hb⟩; have n0_ := Aside0.mk (blk_below (g := gb195) (o := .cells #[.int .u64 t193, .int .u64 t194] 24 (0, 0)) (by (with_reducible repeat (first | refine blk_drewN ?_ _ | refine blk_drew ?_ | refine blk_alloc ?_ _)); exact BK195.out) hb); have n1_ := Aside0.mk (below_step (by repeat (first | (with_reducible first | exact HB.out | apply below_alloc | apply pw_below_drewN | apply below_drew1 | refine below_set ?_ GE195.out) | exact HB.out)) hb); clear BK195; clear HB; have BK195 := n0_; have HB := n1_; clear n0_ n1_; (try clear hb); (try clear hb2); (try clear hk); (try clear hi)))
                  go_meet
                  case rel => exact ⟨_, (!t199), (by first | rfl | (simp; done) | (simp [*]; done)), H', ⟨by have := HJ11.out; first | omega | exact Nat.le_refl _⟩, ⟨by (with_reducible repeat (first | refine blk_drewN ?_ _ | refine blk_drew ?_ | refine blk_alloc ?_ _)); exact BK195.out⟩, ⟨by repeat (first | (with_reducible first | exact HB.out | apply below_alloc | apply pw_below_drewN | apply below_drew1 | refine below_set ?_ GE195.out) | exact HB.out)⟩⟩
                · replace c25 := Bool.eq_false_iff.mpr c25
                  subst c25
                  have H1 : (posternlaw14_TnumRange.j1 kj11 a0 a1 true t193 t194) = some r := by rw [if_neg (show ¬ (false = true) by decide)] at H; exact H
                  clear H
                  have H := H1
                  clear H1
                  have H' := Aside0.mk H
                  clear H
                  have hcz35_0 : wc.cell? ⟨gb195, 0, none⟩ = some (.int .u64 t193) := (blk_cell BK195.out 0).trans rfl
                  have hcz35_1 : wc.cell? ⟨gb195, 1, none⟩ = some (.int .u64 t194) := (blk_cell BK195.out 1).trans rfl
                  have hfz35_0 := blk_frozen BK195.out 0
                  have hfz35_1 := blk_frozen BK195.out 1
                  go_wp2_with (first | ((with_reducible refine gate_callee (f := 18) rfl ?_); refine goesL_ (some 36) rfl rfl Try.func18 (by kernel_rfl) rfl #[.agg #[.int .u64 t193, .int .u64 t194]] rfl (by (try simp only [List.map_toArray, List.map_cons, List.map_nil]); first | done | rfl | (simp only [List.length_drop, List.length_take]; rfl)) ?_; (with_reducible refine (posternlaw14_good.calls t193 t194 true _ A20.out).mono ?_); rintro e w36 ⟨rfl, hb⟩; refine ⟨_, rfl, ?_⟩; have n0_ := Aside0.mk (blk_below (g := gb195) (o := .cells #[.int .u64 t193, .int .u64 t194] 24 (0, 0)) (by (with_reducible repeat (first | refine blk_drewN ?_ _ | refine blk_drew ?_ | refine blk_alloc ?_ _)); exact BK195.out) hb); have n1_ := Aside0.mk (below_step (by repeat (first | (with_reducible first | exact HB.out | apply below_alloc | apply pw_below_drewN | apply below_drew1 | refine below_set ?_ GE195.out) | exact HB.out)) hb); clear BK195; clear HB; have BK195 := n0_; have HB := n1_; clear n0_ n1_; (try clear hb); (try clear hb2); (try clear hk); (try clear hi); have hcz37_0 : w36.cell? ⟨gb195, 0, none⟩ = some (.int .u64 t193) := (blk_cell BK195.out 0).trans rfl; have hcz37_1 : w36.cell? ⟨gb195, 1, none⟩ = some (.int .u64 t194) := (blk_cell BK195.out 1).trans rfl; have hfz37_0 := blk_frozen BK195.out 0; have hfz37_1 := blk_frozen BK195.out 1) | (go_at_call 19; (with_reducible refine (tnum_Has.calls t193 t194 a0 true _ A22.out).mono ?_); rintro e w38 ⟨rfl, hb⟩; have n0_ := Aside0.mk (blk_below (g := gb195) (o := .cells #[.int .u64 t193, .int .u64 t194] 24 (0, 0)) (by (with_reducible repeat (first | refine blk_drewN ?_ _ | refine blk_drew ?_ | refine blk_alloc ?_ _)); exact BK195.out) hb); have n1_ := Aside0.mk (below_step (by repeat (first | (with_reducible first | exact HB.out | apply below_alloc | apply pw_below_drewN | apply below_drew1 | refine below_set ?_ GE195.out) | exact HB.out)) hb); clear BK195; clear HB; have BK195 := n0_; have HB := n1_; clear n0_ n1_; (try clear hb); (try clear hb2); (try clear hk); (try clear hi); have hcz39_0 : w38.cell? ⟨gb195, 0, none⟩ = some (.int .u64 t193) := (blk_cell BK195.out 0).trans rfl; have hcz39_1 : w38.cell? ⟨gb195, 1, none⟩ = some (.int .u64 t194) := (blk_cell BK195.out 1).trans rfl; have hfz39_0 := blk_frozen BK195.out 0; have hfz39_1 := blk_frozen BK195.out 1) | (go_at_call 19; (with_reducible refine (tnum_Has.calls t193 t194 a1 false _ A24.out).mono ?_); rintro e w40 ⟨rfl, hb⟩; have n0_ := Aside0.mk (blk_below (g := gb195) (o := .cells #[.int .u64 t193, .int .u64 t194] 24 (0, 0)) (by (with_reducible repeat (first | refine blk_drewN ?_ _ | refine blk_drew ?_ | refine blk_alloc ?_ _)); exact BK195.out) hb); have n1_ := Aside0.mk (below_step (by repeat (first | (with_reducible first | exact HB.out | apply below_alloc | apply pw_below_drewN | apply below_drew1 | refine below_set ?_ GE195.out) | exact HB.out)) hb); clear BK195; clear HB; have BK195 := n0_; have HB := n1_; clear n0_ n1_; (try clear hb); (try clear hb2); (try clear hk); (try clear hi)))
                  go_meet
                  case rel => exact ⟨_, (true), (by first | rfl | (simp; done) | (simp [*]; done)), H', ⟨by have := HJ11.out; first | omega | exact Nat.le_refl _⟩, ⟨by (with_reducible repeat (first | refine blk_drewN ?_ _ | refine blk_drew ?_ | refine blk_alloc ?_ _)); exact BK195.out⟩, ⟨by repeat (first | (with_reducible first | exact HB.out | apply below_alloc | apply pw_below_drewN | apply below_drew1 | refine below_set ?_ GE195.out) | exact HB.out)⟩⟩
              · replace c23 := Bool.eq_false_iff.mpr c23
                subst c23
                have H1 : (posternlaw14_TnumRange.j1 kj11 a0 a1 true t193 t194) = some r := by rw [if_neg (show ¬ (false = true) by decide)] at H; exact H
                clear H
                have H := H1
                clear H1
                have H' := Aside0.mk H
                clear H
                have hcz41_0 : wc.cell? ⟨gb195, 0, none⟩ = some (.int .u64 t193) := (blk_cell BK195.out 0).trans rfl
                have hcz41_1 : wc.cell? ⟨gb195, 1, none⟩ = some (.int .u64 t194) := (blk_cell BK195.out 1).trans rfl
                have hfz41_0 := blk_frozen BK195.out 0
                have hfz41_1 := blk_frozen BK195.out 1
                go_wp2_with (first | ((with_reducible refine gate_callee (f := 18) rfl ?_); refine goesL_ (some 36) rfl rfl Try.func18 (by kernel_rfl) rfl #[.agg #[.int .u64 t193, .int .u64 t194]] rfl (by (try simp only [List.map_toArray, List.map_cons, List.map_nil]); first | done | rfl | (simp only [List.length_drop, List.length_take]; rfl)) ?_; (with_reducible refine (posternlaw14_good.calls t193 t194 true _ A20.out).mono ?_); rintro e w42 ⟨rfl, hb⟩; refine ⟨_, rfl, ?_⟩; have n0_ := Aside0.mk (blk_below (g := gb195) (o := .cells #[.int .u64 t193, .int .u64 t194] 24 (0, 0)) (by (with_reducible repeat (first | refine blk_drewN ?_ _ | refine blk_drew ?_ | refine blk_alloc ?_ _)); exact BK195.out) hb); have n1_ := Aside0.mk (below_step (by repeat (first | (with_reducible first | exact HB.out | apply below_alloc | apply pw_below_drewN | apply below_drew1 | refine below_set ?_ GE195.out) | exact HB.out)) hb); clear BK195; clear HB; have BK195 := n0_; have HB := n1_; clear n0_ n1_; (try clear hb); (try clear hb2); (try clear hk); (try clear hi); have hcz43_0 : w42.cell? ⟨gb195, 0, none⟩ = some (.int .u64 t193) := (blk_cell BK195.out 0).trans rfl; have hcz43_1 : w42.cell? ⟨gb195, 1, none⟩ = some (.int .u64 t194) := (blk_cell BK195.out 1).trans rfl; have hfz43_0 := blk_frozen BK195.out 0; have hfz43_1 := blk_frozen BK195.out 1) | (go_at_call 19; (with_reducible refine (tnum_Has.calls t193 t194 a0 false _ A22.out).mono ?_); rintro e w44 ⟨rfl, hb⟩; have n0_ := Aside0.mk (blk_below (g := gb195) (o := .cells #[.int .u64 t193, .int .u64 t194] 24 (0, 0)) (by (with_reducible repeat (first | refine blk_drewN ?_ _ | refine blk_drew ?_ | refine blk_alloc ?_ _)); exact BK195.out) hb); have n1_ := Aside0.mk (below_step (by repeat (first | (with_reducible first | exact HB.out | apply below_alloc | apply pw_below_drewN | apply below_drew1 | refine below_set ?_ GE195.out) | exact HB.out)) hb); clear BK195; clear HB; have BK195 := n0_; have HB := n1_; clear n0_ n1_; (try clear hb); (try clear hb2); (try clear hk); (try clear hi)))
                go_meet
                case rel => exact ⟨_, (true), (by first | rfl | (simp; done) | (simp [*]; done)), H', ⟨by have := HJ11.out; first | omega | exact Nat.le_refl _⟩, ⟨by (with_reducible repeat (first | refine blk_drewN ?_ _ | refine blk_drew ?_ | refine blk_alloc ?_ _)); exact BK195.out⟩, ⟨by repeat (first | (with_reducible first | exact HB.out | apply below_alloc | apply pw_below_drewN | apply below_drew1 | refine below_set ?_ GE195.out) | exact HB.out)⟩⟩
            · replace c21 := Bool.eq_false_iff.mpr c21
              subst c21
              have H1 : (posternlaw14_TnumRange.j1 kj11 a0 a1 true t193 t194) = some r := by rw [if_neg (show ¬ (false = true) by decide)] at H; exact H
              clear H
              have H := H1
              clear H1
              have H' := Aside0.mk H
              clear H
              have hcz45_0 : wc.cell? ⟨gb195, 0, none⟩ = some (.int .u64 t193) := (blk_cell BK195.out 0).trans rfl
              have hcz45_1 : wc.cell? ⟨gb195, 1, none⟩ = some (.int .u64 t194) := (blk_cell BK195.out 1).trans rfl
              have hfz45_0 := blk_frozen BK195.out 0
              have hfz45_1 := blk_frozen BK195.out 1
              go_wp2_with (first | ((with_reducible refine gate_callee (f := 18) rfl ?_); refine goesL_ (some 36) rfl rfl Try.func18 (by kernel_rfl) rfl #[.agg #[.int .u64 t193, .int .u64 t194]] rfl (by (try simp only [List.map_toArray, List.map_cons, List.map_nil]); first | done | rfl | (simp only [List.length_drop, List.length_take]; rfl)) ?_; (with_reducible refine (posternlaw14_good.calls t193 t194 false _ A20.out).mono ?_); rintro e w46 ⟨rfl, hb⟩; refine ⟨_, rfl, ?_⟩; have n0_ := Aside0.mk (blk_below (g := gb195) (o := .cells #[.int .u64 t193, .int .u64 t194] 24 (0, 0)) (by (with_reducible repeat (first | refine blk_drewN ?_ _ | refine blk_drew ?_ | refine blk_alloc ?_ _)); exact BK195.out) hb); have n1_ := Aside0.mk (below_step (by repeat (first | (with_reducible first | exact HB.out | apply below_alloc | apply pw_below_drewN | apply below_drew1 | refine below_set ?_ GE195.out) | exact HB.out)) hb); clear BK195; clear HB; have BK195 := n0_; have HB := n1_; clear n0_ n1_; (try clear hb); (try clear hb2); (try clear hk); (try clear hi)))
              go_meet
              case rel => exact ⟨_, (true), (by first | rfl | (simp; done) | (simp [*]; done)), H', ⟨by have := HJ11.out; first | omega | exact Nat.le_refl _⟩, ⟨by (with_reducible repeat (first | refine blk_drewN ?_ _ | refine blk_drew ?_ | refine blk_alloc ?_ _)); exact BK195.out⟩, ⟨by repeat (first | (with_reducible first | exact HB.out | apply below_alloc | apply pw_below_drewN | apply below_drew1 | refine below_set ?_ GE195.out) | exact HB.out)⟩⟩
          case rest =>
            clear HC19
            try clear c1
            try clear c2
            try clear p2
            try clear c5
            try clear c7
            try clear c7b0
            try clear c13
            try clear c17
            try clear c17b0
            try clear c18
            try clear c18b0
            try clear c18b1
            try clear c21
            try clear c23
            try clear c25
            try clear hcz11_0
            try clear hcz11_1
            try clear hcz16_0
            try clear hcz16_1
            try clear hcz27_0
            try clear hcz27_1
            try clear hcz29_0
            try clear hcz29_1
            try clear hcz31_0
            try clear hcz31_1
            try clear hcz33_0
            try clear hcz33_1
            try clear hcz35_0
            try clear hcz35_1
            try clear hcz37_0
            try clear hcz37_1
            try clear hcz39_0
            try clear hcz39_1
            try clear hcz41_0
            try clear hcz41_1
            try clear hcz43_0
            try clear hcz43_1
            try clear hcz45_0
            try clear hcz45_1
            try clear hfz11_0
            try clear hfz11_1
            try clear hfz16_0
            try clear hfz16_1
            try clear hfz27_0
            try clear hfz27_1
            try clear hfz29_0
            try clear hfz29_1
            try clear hfz31_0
            try clear hfz31_1
            try clear hfz33_0
            try clear hfz33_1
            try clear hfz35_0
            try clear hfz35_1
            try clear hfz37_0
            try clear hfz37_1
            try clear hfz39_0
            try clear hfz39_1
            try clear hfz41_0
            try clear hfz41_1
            try clear hfz43_0
            try clear hfz43_1
            try clear hfz45_0
            try clear hfz45_1
            try clear p2
            obtain ⟨kq, x55_18, rfl, HA, HJ18, BK195, HB⟩ := hcut
            cases kq with
            | zero => exact absurd HA.out (by simp [posternlaw14_TnumRange.j1])
            | succ kj18 =>
              have H := HA.out
              clear HA
              simp only [posternlaw14_TnumRange.j1] at H
              by_cases c47 : x55_18 = true
              · subst c47
                have H1 : (some false) = some r := by rw [if_pos rfl] at H; exact H
                clear H
                have H := H1
                clear H1
                exact absurd (H.trans (congrArg some hr_.out)) (by simp)
              · replace c47 := Bool.eq_false_iff.mpr c47
                subst c47
                have H1 : (posternlaw14_TnumRange.l0 kj18 a0 a1 18446744073709551615 63 t193 t194) = some r := by rw [if_neg (show ¬ (false = true) by decide)] at H; exact H
                clear H
                have H := H1
                clear H1
                have H' := Aside0.mk H
                clear H
                go_wp2
                go_loopg [9, 10] kj18 (fun kq v9 v10 w' => ∃ (x9_3 : Int) (x10_3 : Int), v9 = .int .u64 x9_3 ∧ v10 = .int .i64 x10_3 ∧ Aside0 (posternlaw14_TnumRange.l0 kq a0 a1 x9_3 x10_3 t193 t194 = some r) ∧ Aside0 (kq ≤ kj18) ∧ Aside0 (w'.heap[gb195]? = some (.cells #[.int .u64 t193, .int .u64 t194] 24 (0, 0))) ∧ Aside0 (Below w.heap.size w w'))
                case atStart => exact ⟨(18446744073709551615), (63), (by first | rfl | (simp; done) | (simp [*]; done)), (by first | rfl | (simp; done) | (simp [*]; done)), H', ⟨Nat.le_refl _⟩, ⟨by (with_reducible repeat (first | refine blk_drewN ?_ _ | refine blk_drew ?_ | refine blk_alloc ?_ _)); exact BK195.out⟩, ⟨by repeat (first | (with_reducible first | exact HB.out | apply below_alloc | apply pw_below_drewN | apply below_drew1 | refine below_set ?_ GE195.out) | exact HB.out)⟩⟩
                case round =>
                  clear H'
                  try clear c1
                  try clear c2
                  try clear p2
                  try clear c4
                  try clear c5
                  try clear c7
                  try clear c7b0
                  try clear c13
                  try clear c17
                  try clear c17b0
                  try clear c18
                  try clear c18b0
                  try clear c18b1
                  try clear c21
                  try clear c23
                  try clear c25
                  try clear c47
                  try clear hcz11_0
                  try clear hcz11_1
                  try clear hcz16_0
                  try clear hcz16_1
                  try clear hcz27_0
                  try clear hcz27_1
                  try clear hcz29_0
                  try clear hcz29_1
                  try clear hcz31_0
                  try clear hcz31_1
                  try clear hcz33_0
                  try clear hcz33_1
                  try clear hcz35_0
                  try clear hcz35_1
                  try clear hcz37_0
                  try clear hcz37_1
                  try clear hcz39_0
                  try clear hcz39_1
                  try clear hcz41_0
                  try clear hcz41_1
                  try clear hcz43_0
                  try clear hcz43_1
                  try clear hcz45_0
                  try clear hcz45_1
                  try clear hfz11_0
                  try clear hfz11_1
                  try clear hfz16_0
                  try clear hfz16_1
                  try clear hfz27_0
                  try clear hfz27_1
                  try clear hfz29_0
                  try clear hfz29_1
                  try clear hfz31_0
                  try clear hfz31_1
                  try clear hfz33_0
                  try clear hfz33_1
                  try clear hfz35_0
                  try clear hfz35_1
                  try clear hfz37_0
                  try clear hfz37_1
                  try clear hfz39_0
                  try clear hfz39_1
                  try clear hfz41_0
                  try clear hfz41_1
                  try clear hfz43_0
                  try clear hfz43_1
                  try clear hfz45_0
                  try clear hfz45_1
                  try clear p2
                  obtain ⟨x9_3, x10_3, rfl, rfl, HA, HK3, BK195, HB⟩ := hrel
                  cases gk with
                  | zero => exact absurd HA.out (by simp [posternlaw14_TnumRange.l0])
                  | succ k3 =>
                    have H := HA.out
                    clear HA
                    simp only [posternlaw14_TnumRange.l0] at H
                    by_cases c48 : x10_3 ≥ 0
                    · rw [if_pos c48] at H
                      have c48b0 : decide (0 ≤ x10_3) = true := decide_eq_true c48
                      clear c48
                      obtain ⟨ji49, hji49⟩ : ∃ j_ : Int, (IntKind.u64.wrap (x10_3)) = j_ := ⟨_, rfl⟩
                      replace H : (if 0 ≤ (ji49) then (if (Go.bits .and .u64 (shr .u64 (Go.bits .xor .u64 a0 a1) (ji49)) 1) = 1 then (if 0 ≤ (IntKind.u64.wrap (wrap64 (x10_3 + 1))) then (if x10_3 = 63 then (if t194 = (Go.bits .xor .u64 18446744073709551615 0) then (some (t193 == (Go.bits .and .u64 a0 0))) else (some false)) else (if t194 = (Go.bits .xor .u64 18446744073709551615 (Go.bits .xor .u64 18446744073709551615 (IntKind.u64.wrap ((shl .u64 1 (IntKind.u64.wrap (wrap64 (x10_3 + 1)))) - 1)))) then (some (t193 == (Go.bits .and .u64 a0 (Go.bits .xor .u64 18446744073709551615 (IntKind.u64.wrap ((shl .u64 1 (IntKind.u64.wrap (wrap64 (x10_3 + 1)))) - 1)))))) else (some false))) else (none)) else (posternlaw14_TnumRange.l0 k3 a0 a1 x9_3 (wrap64 (x10_3 - 1)) t193 t194)) else (none)) = some r := by first | (rw [hji49] at H; exact H) | (simp only [hji49] at H ⊢; exact H)
                      by_cases c50 : 0 ≤ (ji49)
                      · rw [if_pos c50] at H
                        have c50b0 := eq_true c50
                        have c50b1 : decide (0 ≤ (ji49)) = true := decide_eq_true c50
                        clear c50
                        obtain ⟨ji51, hji51⟩ : ∃ j_ : Int, (shr .u64 (Go.bits .xor .u64 a0 a1) (ji49)) = j_ := ⟨_, rfl⟩
                        replace H : (if (Go.bits .and .u64 (ji51) 1) = 1 then (if 0 ≤ (IntKind.u64.wrap (wrap64 (x10_3 + 1))) then (if x10_3 = 63 then (if t194 = (Go.bits .xor .u64 18446744073709551615 0) then (some (t193 == (Go.bits .and .u64 a0 0))) else (some false)) else (if t194 = (Go.bits .xor .u64 18446744073709551615 (Go.bits .xor .u64 18446744073709551615 (IntKind.u64.wrap ((shl .u64 1 (IntKind.u64.wrap (wrap64 (x10_3 + 1)))) - 1)))) then (some (t193 == (Go.bits .and .u64 a0 (Go.bits .xor .u64 18446744073709551615 (IntKind.u64.wrap ((shl .u64 1 (IntKind.u64.wrap (wrap64 (x10_3 + 1)))) - 1)))))) else (some false))) else (none)) else (posternlaw14_TnumRange.l0 k3 a0 a1 x9_3 (wrap64 (x10_3 - 1)) t193 t194)) = some r := by first | (rw [hji51] at H; exact H) | (simp only [hji51] at H ⊢; exact H)
                        have hji51_ : ((Go.bits .xor .u64 a0 a1) / 2 ^ min (ji49).toNat 64) = ji51 := hji51
                        have hji51z : (ji49) ≤ 64 → ((Go.bits .xor .u64 a0 a1) / 2 ^ (ji49).toNat) = ji51 := shr_small hji51
                        by_cases c52 : (Go.bits .and .u64 (ji51) 1) = 1
                        · rw [if_pos c52] at H
                          have c52b0 : ((Go.bits .and .u64 (ji51) 1) == 1) = true := beq_iff_eq.mpr c52
                          have c52b1 : ((Go.bits .and .u64 (ji51) 1) != 1) = false := bne_eq_false_iff_eq.mpr c52
                          clear c52
                          obtain ⟨ji53, hji53⟩ : ∃ j_ : Int, (IntKind.u64.wrap (wrap64 (x10_3 + 1))) = j_ := ⟨_, rfl⟩
                          replace H : (if 0 ≤ (ji53) then (if x10_3 = 63 then (if t194 = (Go.bits .xor .u64 18446744073709551615 0) then (some (t193 == (Go.bits .and .u64 a0 0))) else (some false)) else (if t194 = (Go.bits .xor .u64 18446744073709551615 (Go.bits .xor .u64 18446744073709551615 (IntKind.u64.wrap ((shl .u64 1 (ji53)) - 1)))) then (some (t193 == (Go.bits .and .u64 a0 (Go.bits .xor .u64 18446744073709551615 (IntKind.u64.wrap ((shl .u64 1 (ji53)) - 1)))))) else (some false))) else (none)) = some r := by first | (rw [hji53] at H; exact H) | (simp only [hji53] at H ⊢; exact H)
                          by_cases c54 : 0 ≤ (ji53)
                          · rw [if_pos c54] at H
                            have c54b0 := eq_true c54
                            have c54b1 : decide (0 ≤ (ji53)) = true := decide_eq_true c54
                            clear c54
                            obtain ⟨ji55, hji55⟩ : ∃ j_ : Int, (shl .u64 1 (ji53)) = j_ := ⟨_, rfl⟩
                            replace H : (if x10_3 = 63 then (if t194 = (Go.bits .xor .u64 18446744073709551615 0) then (some (t193 == (Go.bits .and .u64 a0 0))) else (some false)) else (if t194 = (Go.bits .xor .u64 18446744073709551615 (Go.bits .xor .u64 18446744073709551615 (IntKind.u64.wrap ((ji55) - 1)))) then (some (t193 == (Go.bits .and .u64 a0 (Go.bits .xor .u64 18446744073709551615 (IntKind.u64.wrap ((ji55) - 1)))))) else (some false))) = some r := by first | (rw [hji55] at H; exact H) | (simp only [hji55] at H ⊢; exact H)
                            have hji55_ : (IntKind.u64.wrap (1 * 2 ^ min (ji53).toNat 64)) = ji55 := hji55
                            have hji55z : (ji53) ≤ 64 → (IntKind.u64.wrap (1 * 2 ^ (ji53).toNat)) = ji55 := shl_small hji55
                            have hji55u : (IntKind.u64.wrap (2 ^ min (ji53).toNat 64)) = ji55 := by have h_ := hji55_; rw [Int.one_mul] at h_; exact h_
                            have hji55v : (ji53) ≤ 64 → (IntKind.u64.wrap (2 ^ (ji53).toNat)) = ji55 := fun hle_ => by have h_ := hji55z hle_; rw [Int.one_mul] at h_; exact h_
                            by_cases c56 : x10_3 = 63
                            · rw [if_pos c56] at H
                              have c56b0 : (x10_3 == 63) = true := beq_iff_eq.mpr c56
                              have c56b1 : (x10_3 != 63) = false := bne_eq_false_iff_eq.mpr c56
                              clear c56
                              by_cases c57 : t194 = (Go.bits .xor .u64 18446744073709551615 0)
                              · rw [if_pos c57] at H
                                have c57b0 : (t194 == (Go.bits .xor .u64 18446744073709551615 0)) = true := beq_iff_eq.mpr c57
                                have c57b1 : (t194 != (Go.bits .xor .u64 18446744073709551615 0)) = false := bne_eq_false_iff_eq.mpr c57
                                clear c57
                                obtain rfl := Option.some.inj H
                                have hcz58_0 : wr.cell? ⟨gb195, 0, none⟩ = some (.int .u64 t193) := (blk_cell BK195.out 0).trans rfl
                                have hcz58_1 : wr.cell? ⟨gb195, 1, none⟩ = some (.int .u64 t194) := (blk_cell BK195.out 1).trans rfl
                                have hfz58_0 := blk_frozen BK195.out 0
                                have hfz58_1 := blk_frozen BK195.out 1
                                go_wp2
                                go_ret
                                exact ⟨by first | rfl | (simp [errW_none, errW_some] <;> rfl) | (simp only [← hji49, ← hji51, ← hji53, ← hji55]; first | rfl | (simp [errW_none, errW_some] <;> rfl)) | (simp [*, errW_none, errW_some] <;> rfl), by repeat (first | (with_reducible first | exact HB.out | apply below_alloc | apply pw_below_drewN | apply below_drew1 | refine below_set ?_ GE195.out) | exact HB.out)⟩
                              · rw [if_neg c57] at H
                                have c57b0 : (t194 == (Go.bits .xor .u64 18446744073709551615 0)) = false := beq_eq_false_iff_ne.mpr c57
                                have c57b1 : (t194 != (Go.bits .xor .u64 18446744073709551615 0)) = true := bne_iff_ne.mpr c57
                                exact absurd (H.trans (congrArg some hr_.out)) (by simp)
                            · rw [if_neg c56] at H
                              have c56b0 : (x10_3 == 63) = false := beq_eq_false_iff_ne.mpr c56
                              have c56b1 : (x10_3 != 63) = true := bne_iff_ne.mpr c56
                              by_cases c59 : t194 = (Go.bits .xor .u64 18446744073709551615 (Go.bits .xor .u64 18446744073709551615 (IntKind.u64.wrap ((ji55) - 1))))
                              · rw [if_pos c59] at H
                                have c59b0 : (t194 == (Go.bits .xor .u64 18446744073709551615 (Go.bits .xor .u64 18446744073709551615 (IntKind.u64.wrap ((ji55) - 1))))) = true := beq_iff_eq.mpr c59
                                have c59b1 : (t194 != (Go.bits .xor .u64 18446744073709551615 (Go.bits .xor .u64 18446744073709551615 (IntKind.u64.wrap ((ji55) - 1))))) = false := bne_eq_false_iff_eq.mpr c59
                                clear c59
                                obtain rfl := Option.some.inj H
                                have hcz60_0 : wr.cell? ⟨gb195, 0, none⟩ = some (.int .u64 t193) := (blk_cell BK195.out 0).trans rfl
                                have hcz60_1 : wr.cell? ⟨gb195, 1, none⟩ = some (.int .u64 t194) := (blk_cell BK195.out 1).trans rfl
                                have hfz60_0 := blk_frozen BK195.out 0
                                have hfz60_1 := blk_frozen BK195.out 1
                                go_wp2
                                go_ret
                                exact ⟨by first | rfl | (simp [errW_none, errW_some] <;> rfl) | (simp only [← hji49, ← hji51, ← hji53, ← hji55]; first | rfl | (simp [errW_none, errW_some] <;> rfl)) | (simp [*, errW_none, errW_some] <;> rfl), by repeat (first | (with_reducible first | exact HB.out | apply below_alloc | apply pw_below_drewN | apply below_drew1 | refine below_set ?_ GE195.out) | exact HB.out)⟩
                              · rw [if_neg c59] at H
                                have c59b0 : (t194 == (Go.bits .xor .u64 18446744073709551615 (Go.bits .xor .u64 18446744073709551615 (IntKind.u64.wrap ((ji55) - 1))))) = false := beq_eq_false_iff_ne.mpr c59
                                have c59b1 : (t194 != (Go.bits .xor .u64 18446744073709551615 (Go.bits .xor .u64 18446744073709551615 (IntKind.u64.wrap ((ji55) - 1))))) = true := bne_iff_ne.mpr c59
                                exact absurd (H.trans (congrArg some hr_.out)) (by simp)
                          · rw [if_neg c54] at H
                            exact absurd H (by simp)
                        · rw [if_neg c52] at H
                          have c52b0 : ((Go.bits .and .u64 (ji51) 1) == 1) = false := beq_eq_false_iff_ne.mpr c52
                          have c52b1 : ((Go.bits .and .u64 (ji51) 1) != 1) = true := bne_iff_ne.mpr c52
                          have H' := Aside0.mk H
                          clear H
                          go_wp2
                          go_roundg k3
                          case measure => have := HJ11.out; have := HJ18.out; have := HK3.out; omega
                          case rel => exact ⟨(x9_3), (wrap64 (x10_3 - 1)), (by first | rfl | (simp; done) | (simp [*]; done)), (by first | rfl | (simp; done) | (simp [*]; done)), H', ⟨by have := HJ11.out; have := HJ18.out; have := HK3.out; omega⟩, ⟨by (with_reducible repeat (first | refine blk_drewN ?_ _ | refine blk_drew ?_ | refine blk_alloc ?_ _)); exact BK195.out⟩, ⟨by repeat (first | (with_reducible first | exact HB.out | apply below_alloc | apply pw_below_drewN | apply below_drew1 | refine below_set ?_ GE195.out) | exact HB.out)⟩⟩
                      · rw [if_neg c50] at H
                        exact absurd H (by simp)
                    · rw [if_neg c48] at H
                      have c48b0 : decide (0 ≤ x10_3) = false := decide_eq_false c48
                      clear c48
                      by_cases c61 : t194 = (Go.bits .xor .u64 18446744073709551615 x9_3)
                      · rw [if_pos c61] at H
                        have c61b0 : (t194 == (Go.bits .xor .u64 18446744073709551615 x9_3)) = true := beq_iff_eq.mpr c61
                        have c61b1 : (t194 != (Go.bits .xor .u64 18446744073709551615 x9_3)) = false := bne_eq_false_iff_eq.mpr c61
                        clear c61
                        obtain rfl := Option.some.inj H
                        have hcz62_0 : wr.cell? ⟨gb195, 0, none⟩ = some (.int .u64 t193) := (blk_cell BK195.out 0).trans rfl
                        have hcz62_1 : wr.cell? ⟨gb195, 1, none⟩ = some (.int .u64 t194) := (blk_cell BK195.out 1).trans rfl
                        have hfz62_0 := blk_frozen BK195.out 0
                        have hfz62_1 := blk_frozen BK195.out 1
                        go_wp2
                        go_ret
                        exact ⟨by first | rfl | (simp [errW_none, errW_some] <;> rfl) | (simp [*, errW_none, errW_some] <;> rfl), by repeat (first | (with_reducible first | exact HB.out | apply below_alloc | apply pw_below_drewN | apply below_drew1 | refine below_set ?_ GE195.out) | exact HB.out)⟩
                      · rw [if_neg c61] at H
                        have c61b0 : (t194 == (Go.bits .xor .u64 18446744073709551615 x9_3)) = false := beq_eq_false_iff_ne.mpr c61
                        have c61b1 : (t194 != (Go.bits .xor .u64 18446744073709551615 x9_3)) = true := bne_iff_ne.mpr c61
                        exact absurd (H.trans (congrArg some hr_.out)) (by simp)
  · replace c5 := Bool.eq_false_iff.mpr c5
    subst c5
    have H1 : (some false) = some r := by rw [if_neg (show ¬ (false = true) by decide)] at H; exact H
    clear H
    have H := H1
    clear H1
    exact absurd (H.trans (congrArg some hr_.out)) (by simp)

/-- THE ONE PURE STATEMENT of posternlaw14_TnumRange: yours. -/
def posternlaw14_TnumRange.Pure : Prop := ∀ (a0 : Int) (a1 : Int) (a2 : Int), (Lit.int .u64 a0).wf = true → (Lit.int .u64 a1).wf = true → (Lit.int .u64 a2).wf = true → ∃ k, posternlaw14_TnumRange.f k a0 a1 a2 = some true
theorem posternlaw14_TnumRange.walk (P : posternlaw14_TnumRange.Pure) (a0 : Int) (a1 : Int) (a2 : Int) (w : World) (w0 : (Lit.int .u64 a0).wf = true) (w1 : (Lit.int .u64 a1).wf = true) (w2 : (Lit.int .u64 a2).wf = true) :
    Calls Try.prog 5 #[.int .u64 a0, .int .u64 a1, .int .u64 a2] w fun e w' => e = .returned (.bool true) ∧ Below w.heap.size w w' := by
  obtain ⟨k, h⟩ := P a0 a1 a2 w0 w1 w2
  refine (posternlaw14_TnumRange.calls k a0 a1 a2 true w ⟨rfl⟩ h).mono ?_
  rintro e w' ⟨rfl, hd⟩
  exact ⟨rfl, hd⟩

end Go.Proofs.Ytladlljnpmpdpaa.PTnumRange
