-- Written by a program of this session (a variant of the print), for this claim. Lean checks it.
import Derived.Test.YtiekhgllnpgjcaaPInsnPlainx0
import Derived.Test.YtiekhgllnpgjcaaPInsnPlainx1
import Derived.Test.YtiekhgllnpgjcaaPInsnPlainx2
import Derived.Test.YtiekhgllnpgjcaaPInsnPlainx4
namespace Go.Proofs.Ytiekhgllnpgjcaa.PInsnPlain
open Go.RowKit Go.Proofs.YtiekhgllnpgjcaaW.PrintWords Go.Proofs.YtiekhgllnpgjcaaW.PrintLast Go.Proofs.YtiekhgllnpgjcaaW.PrintMore
attribute [local go_sem] max2_int min2_int max_two min_two max_three min_three max_four min_four   -- for this text's walks alone
attribute [local go_sem high] Go.Proofs.Ytiekhgllnpgjcaa.NotLaw.not_u64 Go.Proofs.Ytiekhgllnpgjcaa.NotLaw.not_u32 Go.Proofs.Ytiekhgllnpgjcaa.NotLaw.not_u16 Go.Proofs.Ytiekhgllnpgjcaa.NotLaw.not_u8
set_option linter.unusedVariables false
set_option linter.unusedSimpArgs false

attribute [local go_sem high] eqA24
/-! ### insn_Plain: function 29 -/
mutual
def insn_Plain.j0 : Nat → List (S24) → Int → Bool → Option (Int × Int)
  | 0, _, _, _ => none
  | k + 1, x0, x1, x15 => if x15 = true then (some (0, 2)) else (if 0 ≤ x1 then (if x1 < (x0.length : Int) then ((insn_Known.f k ((rd_T24 x0 x1).f0)).bind fun t148 => (if t148 = true then ((insn_without.f k ((rd_T24 x0 x1).f0) ((rd_T24 x0 x1).f1) ((rd_T24 x0 x1).f2) ((rd_T24 x0 x1).f3) ((rd_T24 x0 x1).f4)).bind fun bt149 => (if (!(bt149.1 == ((rd_T24 x0 x1).f0)) || (!(bt149.2.1 == 0) || (!(bt149.2.2.1 == 0) || (!(bt149.2.2.2.1 == 0) || (!(bt149.2.2.2.2 == 0)))))) = true then (insn_Plain.j1 k x0 x1 true ((rd_T24 x0 x1).f0) ((rd_T24 x0 x1).f1) ((rd_T24 x0 x1).f2) ((rd_T24 x0 x1).f3) ((rd_T24 x0 x1).f4)) else (if ((rd_T24 x0 x1).f1) > 10 then (insn_Plain.j1 k x0 x1 true ((rd_T24 x0 x1).f0) ((rd_T24 x0 x1).f1) ((rd_T24 x0 x1).f2) ((rd_T24 x0 x1).f3) ((rd_T24 x0 x1).f4)) else (insn_Plain.j1 k x0 x1 (decide (((rd_T24 x0 x1).f2) > 10)) ((rd_T24 x0 x1).f0) ((rd_T24 x0 x1).f1) ((rd_T24 x0 x1).f2) ((rd_T24 x0 x1).f3) ((rd_T24 x0 x1).f4))))) else (some (0, 41)))) else (none)) else (none))
def insn_Plain.j1 : Nat → List (S24) → Int → Bool → Int → Int → Int → Int → Int → Option (Int × Int)
  | 0, _, _, _, _, _, _, _, _ => none
  | k + 1, x0, x1, x40, x148000, x148001, x148002, x148003, x148004 => if x40 = true then (some (0, 42)) else (if x148000 = 133 then (insn_Plain.j2 k x0 x1 (decide (x148002 > 1)) x148000 x148001 x148002 x148003 x148004) else (insn_Plain.j2 k x0 x1 false x148000 x148001 x148002 x148003 x148004))
def insn_Plain.j2 : Nat → List (S24) → Int → Bool → Int → Int → Int → Int → Int → Option (Int × Int)
  | 0, _, _, _, _, _, _, _, _ => none
  | k + 1, x0, x1, x48, x148000, x148001, x148002, x148003, x148004 => if x48 = true then (some (0, 42)) else ((insn_Wide.f x148000).bind fun t155 => (if t155 = true then (if x148002 > 1 then (some (0, 42)) else (if (wrap64 (x1 + 1)) ≥ (x0.length : Int) then (some (0, 42)) else (if 0 ≤ (wrap64 (x1 + 1)) then (if (wrap64 (x1 + 1)) < (x0.length : Int) then (if (!(((rd_T24 x0 (wrap64 (x1 + 1))).f0) == 0) || (!(((rd_T24 x0 (wrap64 (x1 + 1))).f1) == 0) || (!(((rd_T24 x0 (wrap64 (x1 + 1))).f2) == 0) || (!(((rd_T24 x0 (wrap64 (x1 + 1))).f3) == 0))))) = true then (some (0, 42)) else (some (2, 0))) else (none)) else (none)))) else (some (1, 0))))
end
def insn_Plain.f (k : Nat) (l0 : List (S24)) (a1 : Int) : Option (Int × Int) := if a1 < 0 then (insn_Plain.j0 k l0 a1 true) else (insn_Plain.j0 k l0 a1 (decide (a1 ≥ (l0.length : Int))))
theorem insn_Plain.mono_l : ∀ k, (∀ y0 y1 y2, LeO (insn_Plain.j0 k y0 y1 y2) (insn_Plain.j0 (k + 1) y0 y1 y2)) ∧ (∀ y0 y1 y2 y3 y4 y5 y6 y7, LeO (insn_Plain.j1 k y0 y1 y2 y3 y4 y5 y6 y7) (insn_Plain.j1 (k + 1) y0 y1 y2 y3 y4 y5 y6 y7)) ∧ (∀ y0 y1 y2 y3 y4 y5 y6 y7, LeO (insn_Plain.j2 k y0 y1 y2 y3 y4 y5 y6 y7) (insn_Plain.j2 (k + 1) y0 y1 y2 y3 y4 y5 y6 y7))
  | 0 => ⟨fun _ _ _ r h => by simp [insn_Plain.j0] at h, fun _ _ _ _ _ _ _ _ r h => by simp [insn_Plain.j1] at h, fun _ _ _ _ _ _ _ _ r h => by simp [insn_Plain.j2] at h⟩
  | k + 1 => by
    obtain ⟨ih0, ih1, ih2⟩ := insn_Plain.mono_l k
    refine ⟨?_, ?_, ?_⟩
    · intro y0 y1 y2
      unfold insn_Plain.j0
      repeat' first
      | (with_reducible exact ih0 _ _ _)
      | (with_reducible exact ih1 _ _ _ _ _ _ _ _)
      | (with_reducible exact ih2 _ _ _ _ _ _ _ _)
      | (with_reducible exact insn_Known.mono _ _)
      | (with_reducible exact insn_without.mono _ _ _ _ _ _)
      | (with_reducible exact LeO.refl _)
      | (with_reducible exact LeO.none _)
      | (with_reducible refine LeO.ite ?_ ?_)
      | (with_reducible refine LeO.bind ?_ (fun _ => ?_))
      | exact ih0 _ _ _
      | exact ih1 _ _ _ _ _ _ _ _
      | exact ih2 _ _ _ _ _ _ _ _
      | exact insn_Known.mono _ _
      | exact insn_without.mono _ _ _ _ _ _
      | exact LeO.none _
      | refine LeO.ite ?_ ?_
      | refine LeO.bind ?_ (fun _ => ?_)
    · intro y0 y1 y2 y3 y4 y5 y6 y7
      unfold insn_Plain.j1
      repeat' first
      | (with_reducible exact ih0 _ _ _)
      | (with_reducible exact ih1 _ _ _ _ _ _ _ _)
      | (with_reducible exact ih2 _ _ _ _ _ _ _ _)
      | (with_reducible exact insn_Known.mono _ _)
      | (with_reducible exact insn_without.mono _ _ _ _ _ _)
      | (with_reducible exact LeO.refl _)
      | (with_reducible exact LeO.none _)
      | (with_reducible refine LeO.ite ?_ ?_)
      | (with_reducible refine LeO.bind ?_ (fun _ => ?_))
      | exact ih0 _ _ _
      | exact ih1 _ _ _ _ _ _ _ _
      | exact ih2 _ _ _ _ _ _ _ _
      | exact insn_Known.mono _ _
      | exact insn_without.mono _ _ _ _ _ _
      | exact LeO.none _
      | refine LeO.ite ?_ ?_
      | refine LeO.bind ?_ (fun _ => ?_)
    · intro y0 y1 y2 y3 y4 y5 y6 y7
      unfold insn_Plain.j2
      repeat' first
      | (with_reducible exact ih0 _ _ _)
      | (with_reducible exact ih1 _ _ _ _ _ _ _ _)
      | (with_reducible exact ih2 _ _ _ _ _ _ _ _)
      | (with_reducible exact insn_Known.mono _ _)
      | (with_reducible exact insn_without.mono _ _ _ _ _ _)
      | (with_reducible exact LeO.refl _)
      | (with_reducible exact LeO.none _)
      | (with_reducible refine LeO.ite ?_ ?_)
      | (with_reducible refine LeO.bind ?_ (fun _ => ?_))
      | exact ih0 _ _ _
      | exact ih1 _ _ _ _ _ _ _ _
      | exact ih2 _ _ _ _ _ _ _ _
      | exact insn_Known.mono _ _
      | exact insn_without.mono _ _ _ _ _ _
      | exact LeO.none _
      | refine LeO.ite ?_ ?_
      | refine LeO.bind ?_ (fun _ => ?_)
theorem insn_Plain.mono : ∀ a0 a1 k, LeO (insn_Plain.f k a0 a1) (insn_Plain.f (k + 1) a0 a1) := by
  intro a0 a1 k
  obtain ⟨ih0, ih1, ih2⟩ := insn_Plain.mono_l k
  unfold insn_Plain.f
  repeat' first
      | (with_reducible exact ih0 _ _ _)
      | (with_reducible exact ih1 _ _ _ _ _ _ _ _)
      | (with_reducible exact ih2 _ _ _ _ _ _ _ _)
      | (with_reducible exact insn_Known.mono _ _)
      | (with_reducible exact insn_without.mono _ _ _ _ _ _)
      | (with_reducible exact LeO.refl _)
      | (with_reducible exact LeO.none _)
      | (with_reducible refine LeO.ite ?_ ?_)
      | (with_reducible refine LeO.bind ?_ (fun _ => ?_))
      | exact ih0 _ _ _
      | exact ih1 _ _ _ _ _ _ _ _
      | exact ih2 _ _ _ _ _ _ _ _
      | exact insn_Known.mono _ _
      | exact insn_without.mono _ _ _ _ _ _
      | exact LeO.none _
      | refine LeO.ite ?_ ?_
      | refine LeO.bind ?_ (fun _ => ?_)
set_option maxHeartbeats 8000000 in
set_option maxRecDepth 100000 in
theorem insn_Plain.calls (k : Nat) (A0 : Option Addr) (c0 : Nat) (l0 : List (S24)) (a1 : Int) (r1 : Int) (r2 : Int) (w : World) (hr0 : Kd.C k24 w A0 l0.length l0) (hc0 : l0.length ≤ c0) (h : insn_Plain.f k l0 a1 = some (r1, r2)) :
    Calls Try.prog 29 #[.slice A0 l0.length c0, .int .i64 a1] w fun e w' => e = .returned (.tuple #[.int .i64 r1, .int .i64 r2]) ∧ Below w.heap.size w w' := by
  have hu24 := Try.underlying24
  have HR0 := Aside0.mk hr0
  have HC0 := Aside0.mk hc0
  clear hr0 hc0
  have HB := Aside0.mk (Below.refl w.heap.size w)
  have H : (if a1 < 0 then (insn_Plain.j0 k l0 a1 true) else (insn_Plain.j0 k l0 a1 (decide (a1 ≥ (l0.length : Int))))) = some (r1, r2) := h
  clear h
  have HC3 := Aside0.mk H
  clear H
  go_enter Try.func29, Try.ntmps29
  go_upto_region 1 with (fail)
  repeat (go_quiet (fail); go_upto_region 1 with (fail))
  go_cut [15] (fun v15 wc => ∃ (kq : Nat) (x15_2 : Bool), v15 = .bool x15_2 ∧ Aside0 (insn_Plain.j0 kq l0 a1 x15_2 = some (r1, r2)) ∧ Aside0 (kq ≤ k) ∧ Aside0 (Below w.heap.size w wc))
  case first =>
    have H := HC3.out
    clear HC3
    by_cases c4 : a1 < 0
    · rw [if_pos c4] at H
      have c4b0 : decide (a1 < 0) = true := decide_eq_true c4
      clear c4
      (first | rw [c4b0] | (simp only [i64_w, i32_w]; rw [c4b0]) | skip)
      have H' := Aside0.mk H
      clear H
      go_wp2
      repeat (go_quiet (fail); try go_wp2)
      go_meet
      case rel => exact ⟨_, (true), (by first | rfl | (simp; done) | (simp [*]; done)), H', ⟨by first | omega | exact Nat.le_refl _⟩, ⟨by repeat (first | (with_reducible first | exact HB.out | apply below_alloc | apply pw_below_drewN | apply below_drew1) | exact HB.out)⟩⟩
    · rw [if_neg c4] at H
      have c4b0 : decide (a1 < 0) = false := decide_eq_false c4
      clear c4
      (first | rw [c4b0] | (simp only [i64_w, i32_w]; rw [c4b0]) | skip)
      have H' := Aside0.mk H
      clear H
      go_wp2
      repeat (go_quiet (fail); try go_wp2)
      go_meet
      case rel => exact ⟨_, (decide (a1 ≥ (l0.length : Int))), (by first | rfl | (simp; done) | (simp [*]; done)), H', ⟨by first | omega | exact Nat.le_refl _⟩, ⟨by repeat (first | (with_reducible first | exact HB.out | apply below_alloc | apply pw_below_drewN | apply below_drew1) | exact HB.out)⟩⟩
  case rest =>
    clear HC3
    try clear c2
    try clear p2
    try clear c4
    try clear c4b0
    obtain ⟨kq, x15_2, rfl, HA, HJ2, HB⟩ := hcut
    cases kq with
    | zero => exact absurd HA.out (by simp [insn_Plain.j0])
    | succ kj2 =>
      have H := HA.out
      clear HA
      simp only [insn_Plain.j0] at H
      by_cases c5 : x15_2 = true
      · subst c5
        have H1 : (some (0, 2)) = some (r1, r2) := by rw [if_pos rfl] at H; exact H
        clear H
        have H := H1
        clear H1
        simp only [Option.some.injEq, Prod.mk.injEq] at H
        obtain ⟨rfl, rfl⟩ := H
        go_wp2
        repeat (go_quiet (fail); try go_wp2)
        go_ret2
        exact ⟨by first | rfl | (simp [errW_none, errW_some] <;> rfl) | (simp [*, errW_none, errW_some] <;> rfl), by repeat (first | (with_reducible first | exact HB.out | apply below_alloc | apply pw_below_drewN | apply below_drew1) | exact HB.out)⟩
      · replace c5 := Bool.eq_false_iff.mpr c5
        subst c5
        have H1 : (if 0 ≤ a1 then (if a1 < (l0.length : Int) then ((insn_Known.f kj2 ((rd_T24 l0 a1).f0)).bind fun t148 => (if t148 = true then ((insn_without.f kj2 ((rd_T24 l0 a1).f0) ((rd_T24 l0 a1).f1) ((rd_T24 l0 a1).f2) ((rd_T24 l0 a1).f3) ((rd_T24 l0 a1).f4)).bind fun bt149 => (if (!(bt149.1 == ((rd_T24 l0 a1).f0)) || (!(bt149.2.1 == 0) || (!(bt149.2.2.1 == 0) || (!(bt149.2.2.2.1 == 0) || (!(bt149.2.2.2.2 == 0)))))) = true then (insn_Plain.j1 kj2 l0 a1 true ((rd_T24 l0 a1).f0) ((rd_T24 l0 a1).f1) ((rd_T24 l0 a1).f2) ((rd_T24 l0 a1).f3) ((rd_T24 l0 a1).f4)) else (if ((rd_T24 l0 a1).f1) > 10 then (insn_Plain.j1 kj2 l0 a1 true ((rd_T24 l0 a1).f0) ((rd_T24 l0 a1).f1) ((rd_T24 l0 a1).f2) ((rd_T24 l0 a1).f3) ((rd_T24 l0 a1).f4)) else (insn_Plain.j1 kj2 l0 a1 (decide (((rd_T24 l0 a1).f2) > 10)) ((rd_T24 l0 a1).f0) ((rd_T24 l0 a1).f1) ((rd_T24 l0 a1).f2) ((rd_T24 l0 a1).f3) ((rd_T24 l0 a1).f4))))) else (some (0, 41)))) else (none)) else (none)) = some (r1, r2) := by rw [if_neg (show ¬ (false = true) by decide)] at H; exact H
        clear H
        have H := H1
        clear H1
        by_cases c6 : 0 ≤ a1
        · rw [if_pos c6] at H
          have c6b0 : decide (0 ≤ a1) = true := decide_eq_true c6
          clear c6
          by_cases c7 : a1 < (l0.length : Int)
          · rw [if_pos c7] at H
            have c7b0 : decide (a1 < (l0.length : Int)) = true := decide_eq_true c7
            clear c7
            replace H := Option.bind_eq_some_iff.mp H
            obtain ⟨t148, A80, H⟩ := H
            replace H : (if t148 = true then ((insn_without.f kj2 ((rd_T24 l0 a1).f0) ((rd_T24 l0 a1).f1) ((rd_T24 l0 a1).f2) ((rd_T24 l0 a1).f3) ((rd_T24 l0 a1).f4)).bind fun bt149 => (if (!(bt149.1 == ((rd_T24 l0 a1).f0)) || (!(bt149.2.1 == 0) || (!(bt149.2.2.1 == 0) || (!(bt149.2.2.2.1 == 0) || (!(bt149.2.2.2.2 == 0)))))) = true then (insn_Plain.j1 kj2 l0 a1 true ((rd_T24 l0 a1).f0) ((rd_T24 l0 a1).f1) ((rd_T24 l0 a1).f2) ((rd_T24 l0 a1).f3) ((rd_T24 l0 a1).f4)) else (if ((rd_T24 l0 a1).f1) > 10 then (insn_Plain.j1 kj2 l0 a1 true ((rd_T24 l0 a1).f0) ((rd_T24 l0 a1).f1) ((rd_T24 l0 a1).f2) ((rd_T24 l0 a1).f3) ((rd_T24 l0 a1).f4)) else (insn_Plain.j1 kj2 l0 a1 (decide (((rd_T24 l0 a1).f2) > 10)) ((rd_T24 l0 a1).f0) ((rd_T24 l0 a1).f1) ((rd_T24 l0 a1).f2) ((rd_T24 l0 a1).f3) ((rd_T24 l0 a1).f4))))) else (some (0, 41))) = some (r1, r2) := H
            have A8 := Aside0.mk A80
            clear A80
            by_cases c9 : t148 = true
            · subst c9
              have H1 : ((insn_without.f kj2 ((rd_T24 l0 a1).f0) ((rd_T24 l0 a1).f1) ((rd_T24 l0 a1).f2) ((rd_T24 l0 a1).f3) ((rd_T24 l0 a1).f4)).bind fun bt149 => (if (!(bt149.1 == ((rd_T24 l0 a1).f0)) || (!(bt149.2.1 == 0) || (!(bt149.2.2.1 == 0) || (!(bt149.2.2.2.1 == 0) || (!(bt149.2.2.2.2 == 0)))))) = true then (insn_Plain.j1 kj2 l0 a1 true ((rd_T24 l0 a1).f0) ((rd_T24 l0 a1).f1) ((rd_T24 l0 a1).f2) ((rd_T24 l0 a1).f3) ((rd_T24 l0 a1).f4)) else (if ((rd_T24 l0 a1).f1) > 10 then (insn_Plain.j1 kj2 l0 a1 true ((rd_T24 l0 a1).f0) ((rd_T24 l0 a1).f1) ((rd_T24 l0 a1).f2) ((rd_T24 l0 a1).f3) ((rd_T24 l0 a1).f4)) else (insn_Plain.j1 kj2 l0 a1 (decide (((rd_T24 l0 a1).f2) > 10)) ((rd_T24 l0 a1).f0) ((rd_T24 l0 a1).f1) ((rd_T24 l0 a1).f2) ((rd_T24 l0 a1).f3) ((rd_T24 l0 a1).f4))))) = some (r1, r2) := by rw [if_pos rfl] at H; exact H
              clear H
              have H := H1
              clear H1
              replace H := Option.bind_eq_some_iff.mp H
              obtain ⟨⟨t149, t150, t151, t152, t153⟩, A100, H⟩ := H
              replace H : (if (!(t149 == ((rd_T24 l0 a1).f0)) || (!(t150 == 0) || (!(t151 == 0) || (!(t152 == 0) || (!(t153 == 0)))))) = true then (insn_Plain.j1 kj2 l0 a1 true ((rd_T24 l0 a1).f0) ((rd_T24 l0 a1).f1) ((rd_T24 l0 a1).f2) ((rd_T24 l0 a1).f3) ((rd_T24 l0 a1).f4)) else (if ((rd_T24 l0 a1).f1) > 10 then (insn_Plain.j1 kj2 l0 a1 true ((rd_T24 l0 a1).f0) ((rd_T24 l0 a1).f1) ((rd_T24 l0 a1).f2) ((rd_T24 l0 a1).f3) ((rd_T24 l0 a1).f4)) else (insn_Plain.j1 kj2 l0 a1 (decide (((rd_T24 l0 a1).f2) > 10)) ((rd_T24 l0 a1).f0) ((rd_T24 l0 a1).f1) ((rd_T24 l0 a1).f2) ((rd_T24 l0 a1).f3) ((rd_T24 l0 a1).f4)))) = some (r1, r2) := H
              have A10 := Aside0.mk A100
              clear A100
              have HC11 := Aside0.mk H
              clear H
              have p146 : 0 ≤ (a1 : Int) := of_decide_eq_true (by first | (with_reducible assumption) | assumption)
              have q146 : a1 < (l0.length : Int) := of_decide_eq_true (by first | (with_reducible assumption) | assumption)
              obtain ⟨ad146, e146, hx146_0, hx146_1, hx146_2, hx146_3, hx146_4⟩ := at_T24 HR0.out a1 p146 q146
              cases e146
              replace hx146_0 := (HB.out.cell (World.block_lt_of_cell? w _ hx146_0)).trans hx146_0
              replace hx146_1 := (HB.out.cell (World.block_lt_of_cell? w _ hx146_1)).trans hx146_1
              replace hx146_2 := (HB.out.cell (World.block_lt_of_cell? w _ hx146_2)).trans hx146_2
              replace hx146_3 := (HB.out.cell (World.block_lt_of_cell? w _ hx146_3)).trans hx146_3
              replace hx146_4 := (HB.out.cell (World.block_lt_of_cell? w _ hx146_4)).trans hx146_4
              replace p146 := eq_true p146
              replace q146 := eq_true q146
              go_upto_region 7 with (first | ((with_reducible refine gate_dst (N := 6) rfl ?_); (try (refine gate_guard (by rfl) ?_; dsimp only)); refine box_event ?hg (N := 6) ?hd (cs := #[.int .u8 0, .int .u8 0, .int .u8 0, .int .i16 0, .int .i32 0]) (t := 24) ?hr ?_; (case hd => rfl); (case hg => rfl); (case hr => first | (go_simp; done) | (go_simp; rfl)); intro gb147 hg w12 hbox hb; have n0_ := Aside0.mk (below_step (by repeat (first | (with_reducible first | exact HB.out | apply below_alloc | apply pw_below_drewN | apply below_drew1) | exact HB.out)) hb); have n1_ := Aside0.mk (hbox); have n2_ := Aside0.mk ((by rw [hg]; exact (below_size (by repeat (first | (with_reducible first | exact HB.out | apply below_alloc | apply pw_below_drewN | apply below_drew1) | exact HB.out))) : w.heap.size ≤ gb147)); have n3_ := Aside0.mk ((by rw [hg]; exact (below_size (by repeat (first | (with_reducible first | exact HB.out | apply below_alloc | apply pw_below_drewN | apply below_drew1) | exact HB.out))) : w.heap.size ≤ gb147)); clear HB; have HB := n0_; have BK147 := n1_; have GW147 := n2_; have GE147 := n3_; clear n0_ n1_ n2_ n3_; clear hb hbox hg; have hcz13_0 : w12.cell? ⟨gb147, 0, none⟩ = some (.int .u8 0) := (blk_cell BK147.out 0).trans rfl; have hcz13_1 : w12.cell? ⟨gb147, 1, none⟩ = some (.int .u8 0) := (blk_cell BK147.out 1).trans rfl; have hcz13_2 : w12.cell? ⟨gb147, 2, none⟩ = some (.int .u8 0) := (blk_cell BK147.out 2).trans rfl; have hcz13_3 : w12.cell? ⟨gb147, 3, none⟩ = some (.int .i16 0) := (blk_cell BK147.out 3).trans rfl; have hcz13_4 : w12.cell? ⟨gb147, 4, none⟩ = some (.int .i32 0) := (blk_cell BK147.out 4).trans rfl; have hfz13_0 := blk_frozen BK147.out 0; have hfz13_1 := blk_frozen BK147.out 1; have hfz13_2 := blk_frozen BK147.out 2; have hfz13_3 := blk_frozen BK147.out 3; have hfz13_4 := blk_frozen BK147.out 4) | (go_at_call 17; (with_reducible refine (insn_Known.calls kj2 ((rd_T24 l0 a1).f0) true _ A8.out).mono ?_); rintro e w' ⟨rfl, ⟨nd, rfl⟩⟩; (try first | exact ⟨rfl, _, World.drewN_drewN _ _ _⟩ | exact ⟨rfl, _, Eq.trans (World.drewN_drewN _ _ _) (congrArg (World.drewN _) (Nat.add_assoc _ _ _))⟩)) | (go_at_call 43; (with_reducible refine (insn_without.calls kj2 ((rd_T24 l0 a1).f0) ((rd_T24 l0 a1).f1) ((rd_T24 l0 a1).f2) ((rd_T24 l0 a1).f3) ((rd_T24 l0 a1).f4) t149 t150 t151 t152 t153 _ A10.out).mono ?_); rintro e w14 ⟨rfl, hb⟩; have n0_ := Aside0.mk (blk_below (g := gb147) (o := .cells #[.int .u8 ((rd_T24 l0 a1).f0), .int .u8 ((rd_T24 l0 a1).f1), .int .u8 ((rd_T24 l0 a1).f2), .int .i16 ((rd_T24 l0 a1).f3), .int .i32 ((rd_T24 l0 a1).f4)] 24 (0, 0)) (by (with_reducible repeat (first | refine blk_drewN ?_ _ | refine blk_drew ?_ | refine blk_alloc ?_ _)); refine blk_put (cs := #[.int .u8 ((rd_T24 l0 a1).f0), .int .u8 ((rd_T24 l0 a1).f1), .int .u8 ((rd_T24 l0 a1).f2), .int .i16 ((rd_T24 l0 a1).f3), .int .i32 0]) ?_ 4 _ rfl; (with_reducible repeat (first | refine blk_drewN ?_ _ | refine blk_drew ?_ | refine blk_alloc ?_ _)); refine blk_put (cs := #[.int .u8 ((rd_T24 l0 a1).f0), .int .u8 ((rd_T24 l0 a1).f1), .int .u8 ((rd_T24 l0 a1).f2), .int .i16 0, .int .i32 0]) ?_ 3 _ rfl; (with_reducible repeat (first | refine blk_drewN ?_ _ | refine blk_drew ?_ | refine blk_alloc ?_ _)); refine blk_put (cs := #[.int .u8 ((rd_T24 l0 a1).f0), .int .u8 ((rd_T24 l0 a1).f1), .int .u8 0, .int .i16 0, .int .i32 0]) ?_ 2 _ rfl; (with_reducible repeat (first | refine blk_drewN ?_ _ | refine blk_drew ?_ | refine blk_alloc ?_ _)); refine blk_put (cs := #[.int .u8 ((rd_T24 l0 a1).f0), .int .u8 0, .int .u8 0, .int .i16 0, .int .i32 0]) ?_ 1 _ rfl; (with_reducible repeat (first | refine blk_drewN ?_ _ | refine blk_drew ?_ | refine blk_alloc ?_ _)); refine blk_put (cs := #[.int .u8 0, .int .u8 0, .int .u8 0, .int .i16 0, .int .i32 0]) ?_ 0 _ rfl; (with_reducible repeat (first | refine blk_drewN ?_ _ | refine blk_drew ?_ | refine blk_alloc ?_ _)); exact BK147.out) hb); have n1_ := Aside0.mk (below_step (by repeat (first | (with_reducible first | exact HB.out | apply below_alloc | apply pw_below_drewN | apply below_drew1 | refine below_set ?_ GE147.out) | exact HB.out)) hb); clear BK147; clear HB; have BK147 := n0_; have HB := n1_; clear n0_ n1_; (try clear hb); (try clear hb2); (try clear hk); (try clear hi)) | ((with_reducible refine gate_dst (N := 7) rfl ?_); (try (refine gate_guard (by rfl) ?_; dsimp only)); refine box_event ?hg (N := 7) ?hd (cs := #[.int .u8 0, .int .u8 0, .int .u8 0, .int .i16 0, .int .i32 0]) (t := 24) ?hr ?_; (case hd => rfl); (case hg => rfl); (case hr => first | (go_simp; done) | (go_simp; rfl)); intro gb154 hg w15 hbox hb; have n0_ := Aside0.mk (blk_below (g := gb147) (o := .cells #[.int .u8 ((rd_T24 l0 a1).f0), .int .u8 ((rd_T24 l0 a1).f1), .int .u8 ((rd_T24 l0 a1).f2), .int .i16 ((rd_T24 l0 a1).f3), .int .i32 ((rd_T24 l0 a1).f4)] 24 (0, 0)) (by (with_reducible repeat (first | refine blk_drewN ?_ _ | refine blk_drew ?_ | refine blk_alloc ?_ _)); exact BK147.out) hb); have n1_ := Aside0.mk (below_step (by repeat (first | (with_reducible first | exact HB.out | apply below_alloc | apply pw_below_drewN | apply below_drew1 | refine below_set ?_ GE147.out) | exact HB.out)) hb); have n2_ := Aside0.mk (hbox); have n3_ := Aside0.mk ((by rw [hg]; exact (below_size (by repeat (first | (with_reducible first | exact HB.out | apply below_alloc | apply pw_below_drewN | apply below_drew1 | refine below_set ?_ GE147.out) | exact HB.out))) : w.heap.size ≤ gb154)); have n4_ := Aside0.mk ((by rw [hg]; exact (below_size (by repeat (first | (with_reducible first | exact HB.out | apply below_alloc | apply pw_below_drewN | apply below_drew1 | refine below_set ?_ GE147.out) | exact HB.out))) : w.heap.size ≤ gb154)); have n5_ := Aside0.mk ((by rw [hg]; exact Nat.ne_of_lt (blk_lt (g := gb147) (o := .cells #[.int .u8 ((rd_T24 l0 a1).f0), .int .u8 ((rd_T24 l0 a1).f1), .int .u8 ((rd_T24 l0 a1).f2), .int .i16 ((rd_T24 l0 a1).f3), .int .i32 ((rd_T24 l0 a1).f4)] 24 (0, 0)) (by (with_reducible repeat (first | refine blk_drewN ?_ _ | refine blk_drew ?_ | refine blk_alloc ?_ _)); exact BK147.out)) : gb147 ≠ gb154)); have n6_ := Aside0.mk ((by rw [hg]; exact Nat.ne_of_gt (blk_lt (g := gb147) (o := .cells #[.int .u8 ((rd_T24 l0 a1).f0), .int .u8 ((rd_T24 l0 a1).f1), .int .u8 ((rd_T24 l0 a1).f2), .int .i16 ((rd_T24 l0 a1).f3), .int .i32 ((rd_T24 l0 a1).f4)] 24 (0, 0)) (by (with_reducible repeat (first | refine blk_drewN ?_ _ | refine blk_drew ?_ | refine blk_alloc ?_ _)); exact BK147.out)) : gb154 ≠ gb147)); clear BK147; clear HB; have BK147 := n0_; have HB := n1_; have BK154 := n2_; have GW154 := n3_; have GE154 := n4_; have NB147_154 := n5_; have NB154_147 := n6_; clear n0_ n1_ n2_ n3_ n4_ n5_ n6_; clear hb hbox hg; have hnb16 := NB154_147.out; have hnc16 := NB147_154.out; have hcz17_0 : w15.cell? ⟨gb154, 0, none⟩ = some (.int .u8 0) := (blk_cell BK154.out 0).trans rfl; have hcz17_1 : w15.cell? ⟨gb154, 1, none⟩ = some (.int .u8 0) := (blk_cell BK154.out 1).trans rfl; have hcz17_2 : w15.cell? ⟨gb154, 2, none⟩ = some (.int .u8 0) := (blk_cell BK154.out 2).trans rfl; have hcz17_3 : w15.cell? ⟨gb154, 3, none⟩ = some (.int .i16 0) := (blk_cell BK154.out 3).trans rfl; have hcz17_4 : w15.cell? ⟨gb154, 4, none⟩ = some (.int .i32 0) := (blk_cell BK154.out 4).trans rfl; have hfz17_0 := blk_frozen BK154.out 0; have hfz17_1 := blk_frozen BK154.out 1; have hfz17_2 := blk_frozen BK154.out 2; have hfz17_3 := blk_frozen BK154.out 3; have hfz17_4 := blk_frozen BK154.out 4))
              repeat (go_quiet (first | ((with_reducible refine gate_dst (N := 6) rfl ?_); (try (refine gate_guard (by rfl) ?_; dsimp only)); refine box_event ?hg (N := 6) ?hd (cs := #[.int .u8 0, .int .u8 0, .int .u8 0, .int .i16 0, .int .i32 0]) (t := 24) ?hr ?_; (case hd => rfl); (case hg => rfl); (case hr => first | (go_simp; done) | (go_simp; rfl)); intro gb147 hg w12 hbox hb; have n0_ := Aside0.mk (below_step (by repeat (first | (with_reducible first | exact HB.out | apply below_alloc | apply pw_below_drewN | apply below_drew1) | exact HB.out)) hb); have n1_ := Aside0.mk (hbox); have n2_ := Aside0.mk ((by rw [hg]; exact (below_size (by repeat (first | (with_reducible first | exact HB.out | apply below_alloc | apply pw_below_drewN | apply below_drew1) | exact HB.out))) : w.heap.size ≤ gb147)); have n3_ := Aside0.mk ((by rw [hg]; exact (below_size (by repeat (first | (with_reducible first | exact HB.out | apply below_alloc | apply pw_below_drewN | apply below_drew1) | exact HB.out))) : w.heap.size ≤ gb147)); clear HB; have HB := n0_; have BK147 := n1_; have GW147 := n2_; have GE147 := n3_; clear n0_ n1_ n2_ n3_; clear hb hbox hg; have hcz13_0 : w12.cell? ⟨gb147, 0, none⟩ = some (.int .u8 0) := (blk_cell BK147.out 0).trans rfl; have hcz13_1 : w12.cell? ⟨gb147, 1, none⟩ = some (.int .u8 0) := (blk_cell BK147.out 1).trans rfl; have hcz13_2 : w12.cell? ⟨gb147, 2, none⟩ = some (.int .u8 0) := (blk_cell BK147.out 2).trans rfl; have hcz13_3 : w12.cell? ⟨gb147, 3, none⟩ = some (.int .i16 0) := (blk_cell BK147.out 3).trans rfl; have hcz13_4 : w12.cell? ⟨gb147, 4, none⟩ = some (.int .i32 0) := (blk_cell BK147.out 4).trans rfl; have hfz13_0 := blk_frozen BK147.out 0; have hfz13_1 := blk_frozen BK147.out 1; have hfz13_2 := blk_frozen BK147.out 2; have hfz13_3 := blk_frozen BK147.out 3; have hfz13_4 := blk_frozen BK147.out 4) | (go_at_call 17; (with_reducible refine (insn_Known.calls kj2 ((rd_T24 l0 a1).f0) true _ A8.out).mono ?_); rintro e w' ⟨rfl, ⟨nd, rfl⟩⟩; (try first | exact ⟨rfl, _, World.drewN_drewN _ _ _⟩ | exact ⟨rfl, _, Eq.trans (World.drewN_drewN _ _ _) (congrArg (World.drewN _) (Nat.add_assoc _ _ _))⟩)) | (go_at_call 43; (with_reducible refine (insn_without.calls kj2 ((rd_T24 l0 a1).f0) ((rd_T24 l0 a1).f1) ((rd_T24 l0 a1).f2) ((rd_T24 l0 a1).f3) ((rd_T24 l0 a1).f4) t149 t150 t151 t152 t153 _ A10.out).mono ?_); rintro e w14 ⟨rfl, hb⟩; have n0_ := Aside0.mk (blk_below (g := gb147) (o := .cells #[.int .u8 ((rd_T24 l0 a1).f0), .int .u8 ((rd_T24 l0 a1).f1), .int .u8 ((rd_T24 l0 a1).f2), .int .i16 ((rd_T24 l0 a1).f3), .int .i32 ((rd_T24 l0 a1).f4)] 24 (0, 0)) (by (with_reducible repeat (first | refine blk_drewN ?_ _ | refine blk_drew ?_ | refine blk_alloc ?_ _)); refine blk_put (cs := #[.int .u8 ((rd_T24 l0 a1).f0), .int .u8 ((rd_T24 l0 a1).f1), .int .u8 ((rd_T24 l0 a1).f2), .int .i16 ((rd_T24 l0 a1).f3), .int .i32 0]) ?_ 4 _ rfl; (with_reducible repeat (first | refine blk_drewN ?_ _ | refine blk_drew ?_ | refine blk_alloc ?_ _)); refine blk_put (cs := #[.int .u8 ((rd_T24 l0 a1).f0), .int .u8 ((rd_T24 l0 a1).f1), .int .u8 ((rd_T24 l0 a1).f2), .int .i16 0, .int .i32 0]) ?_ 3 _ rfl; (with_reducible repeat (first | refine blk_drewN ?_ _ | refine blk_drew ?_ | refine blk_alloc ?_ _)); refine blk_put (cs := #[.int .u8 ((rd_T24 l0 a1).f0), .int .u8 ((rd_T24 l0 a1).f1), .int .u8 0, .int .i16 0, .int .i32 0]) ?_ 2 _ rfl; (with_reducible repeat (first | refine blk_drewN ?_ _ | refine blk_drew ?_ | refine blk_alloc ?_ _)); refine blk_put (cs := #[.int .u8 ((rd_T24 l0 a1).f0), .int .u8 0, .int .u8 0, .int .i16 0, .int .i32 0]) ?_ 1 _ rfl; (with_reducible repeat (first | refine blk_drewN ?_ _ | refine blk_drew ?_ | refine blk_alloc ?_ _)); refine blk_put (cs := #[.int .u8 0, .int .u8 0, .int .u8 0, .int .i16 0, .int .i32 0]) ?_ 0 _ rfl; (with_reducible repeat (first | refine blk_drewN ?_ _ | refine blk_drew ?_ | refine blk_alloc ?_ _)); exact BK147.out) hb); have n1_ := Aside0.mk (below_step (by repeat (first | (with_reducible first | exact HB.out | apply below_alloc | apply pw_below_drewN | apply below_drew1 | refine below_set ?_ GE147.out) | exact HB.out)) hb); clear BK147; clear HB; have BK147 := n0_; have HB := n1_; clear n0_ n1_; (try clear hb); (try clear hb2); (try clear hk); (try clear hi)) | ((with_reducible refine gate_dst (N := 7) rfl ?_); (try (refine gate_guard (by rfl) ?_; dsimp only)); refine box_event ?hg (N := 7) ?hd (cs := #[.int .u8 0, .int .u8 0, .int .u8 0, .int .i16 0, .int .i32 0]) (t := 24) ?hr ?_; (case hd => rfl); (case hg => rfl); (case hr => first | (go_simp; done) | (go_simp; rfl)); intro gb154 hg w15 hbox hb; have n0_ := Aside0.mk (blk_below (g := gb147) (o := .cells #[.int .u8 ((rd_T24 l0 a1).f0), .int .u8 ((rd_T24 l0 a1).f1), .int .u8 ((rd_T24 l0 a1).f2), .int .i16 ((rd_T24 l0 a1).f3), .int .i32 ((rd_T24 l0 a1).f4)] 24 (0, 0)) (by (with_reducible repeat (first | refine blk_drewN ?_ _ | refine blk_drew ?_ | refine blk_alloc ?_ _)); exact BK147.out) hb); have n1_ := Aside0.mk (below_step (by repeat (first | (with_reducible first | exact HB.out | apply below_alloc | apply pw_below_drewN | apply below_drew1 | refine below_set ?_ GE147.out) | exact HB.out)) hb); have n2_ := Aside0.mk (hbox); have n3_ := Aside0.mk ((by rw [hg]; exact (below_size (by repeat (first | (with_reducible first | exact HB.out | apply below_alloc | apply pw_below_drewN | apply below_drew1 | refine below_set ?_ GE147.out) | exact HB.out))) : w.heap.size ≤ gb154)); have n4_ := Aside0.mk ((by rw [hg]; exact (below_size (by repeat (first | (with_reducible first | exact HB.out | apply below_alloc | apply pw_below_drewN | apply below_drew1 | refine below_set ?_ GE147.out) | exact HB.out))) : w.heap.size ≤ gb154)); have n5_ := Aside0.mk ((by rw [hg]; exact Nat.ne_of_lt (blk_lt (g := gb147) (o := .cells #[.int .u8 ((rd_T24 l0 a1).f0), .int .u8 ((rd_T24 l0 a1).f1), .int .u8 ((rd_T24 l0 a1).f2), .int .i16 ((rd_T24 l0 a1).f3), .int .i32 ((rd_T24 l0 a1).f4)] 24 (0, 0)) (by (with_reducible repeat (first | refine blk_drewN ?_ _ | refine blk_drew ?_ | refine blk_alloc ?_ _)); exact BK147.out)) : gb147 ≠ gb154)); have n6_ := Aside0.mk ((by rw [hg]; exact Nat.ne_of_gt (blk_lt (g := gb147) (o := .cells #[.int .u8 ((rd_T24 l0 a1).f0), .int .u8 ((rd_T24 l0 a1).f1), .int .u8 ((rd_T24 l0 a1).f2), .int .i16 ((rd_T24 l0 a1).f3), .int .i32 ((rd_T24 l0 a1).f4)] 24 (0, 0)) (by (with_reducible repeat (first | refine blk_drewN ?_ _ | refine blk_drew ?_ | refine blk_alloc ?_ _)); exact BK147.out)) : gb154 ≠ gb147)); clear BK147; clear HB; have BK147 := n0_; have HB := n1_; have BK154 := n2_; have GW154 := n3_; have GE154 := n4_; have NB147_154 := n5_; have NB154_147 := n6_; clear n0_ n1_ n2_ n3_ n4_ n5_ n6_; clear hb hbox hg; have hnb16 := NB154_147.out; have hnc16 := NB147_154.out; have hcz17_0 : w15.cell? ⟨gb154, 0, none⟩ = some (.int .u8 0) := (blk_cell BK154.out 0).trans rfl; have hcz17_1 : w15.cell? ⟨gb154, 1, none⟩ = some (.int .u8 0) := (blk_cell BK154.out 1).trans rfl; have hcz17_2 : w15.cell? ⟨gb154, 2, none⟩ = some (.int .u8 0) := (blk_cell BK154.out 2).trans rfl; have hcz17_3 : w15.cell? ⟨gb154, 3, none⟩ = some (.int .i16 0) := (blk_cell BK154.out 3).trans rfl; have hcz17_4 : w15.cell? ⟨gb154, 4, none⟩ = some (.int .i32 0) := (blk_cell BK154.out 4).trans rfl; have hfz17_0 := blk_frozen BK154.out 0; have hfz17_1 := blk_frozen BK154.out 1; have hfz17_2 := blk_frozen BK154.out 2; have hfz17_3 := blk_frozen BK154.out 3; have hfz17_4 := blk_frozen BK154.out 4)); go_upto_region 7 with (first | ((with_reducible refine gate_dst (N := 6) rfl ?_); (try (refine gate_guard (by rfl) ?_; dsimp only)); refine box_event ?hg (N := 6) ?hd (cs := #[.int .u8 0, .int .u8 0, .int .u8 0, .int .i16 0, .int .i32 0]) (t := 24) ?hr ?_; (case hd => rfl); (case hg => rfl); (case hr => first | (go_simp; done) | (go_simp; rfl)); intro gb147 hg w12 hbox hb; have n0_ := Aside0.mk (below_step (by repeat (first | (with_reducible first | exact HB.out | apply below_alloc | apply pw_below_drewN | apply below_drew1) | exact HB.out)) hb); have n1_ := Aside0.mk (hbox); have n2_ := Aside0.mk ((by rw [hg]; exact (below_size (by repeat (first | (with_reducible first | exact HB.out | apply below_alloc | apply pw_below_drewN | apply below_drew1) | exact HB.out))) : w.heap.size ≤ gb147)); have n3_ := Aside0.mk ((by rw [hg]; exact (below_size (by repeat (first | (with_reducible first | exact HB.out | apply below_alloc | apply pw_below_drewN | apply below_drew1) | exact HB.out))) : w.heap.size ≤ gb147)); clear HB; have HB := n0_; have BK147 := n1_; have GW147 := n2_; have GE147 := n3_; clear n0_ n1_ n2_ n3_; clear hb hbox hg; have hcz13_0 : w12.cell? ⟨gb147, 0, none⟩ = some (.int .u8 0) := (blk_cell BK147.out 0).trans rfl; have hcz13_1 : w12.cell? ⟨gb147, 1, none⟩ = some (.int .u8 0) := (blk_cell BK147.out 1).trans rfl; have hcz13_2 : w12.cell? ⟨gb147, 2, none⟩ = some (.int .u8 0) := (blk_cell BK147.out 2).trans rfl; have hcz13_3 : w12.cell? ⟨gb147, 3, none⟩ = some (.int .i16 0) := (blk_cell BK147.out 3).trans rfl; have hcz13_4 : w12.cell? ⟨gb147, 4, none⟩ = some (.int .i32 0) := (blk_cell BK147.out 4).trans rfl; have hfz13_0 := blk_frozen BK147.out 0; have hfz13_1 := blk_frozen BK147.out 1; have hfz13_2 := blk_frozen BK147.out 2; have hfz13_3 := blk_frozen BK147.out 3; have hfz13_4 := blk_frozen BK147.out 4) | (go_at_call 17; (with_reducible refine (insn_Known.calls kj2 ((rd_T24 l0 a1).f0) true _ A8.out).mono ?_); rintro e w' ⟨rfl, ⟨nd, rfl⟩⟩; (try first | exact ⟨rfl, _, World.drewN_drewN _ _ _⟩ | exact ⟨rfl, _, Eq.trans (World.drewN_drewN _ _ _) (congrArg (World.drewN _) (Nat.add_assoc _ _ _))⟩)) | (go_at_call 43; (with_reducible refine (insn_without.calls kj2 ((rd_T24 l0 a1).f0) ((rd_T24 l0 a1).f1) ((rd_T24 l0 a1).f2) ((rd_T24 l0 a1).f3) ((rd_T24 l0 a1).f4) t149 t150 t151 t152 t153 _ A10.out).mono ?_); rintro e w14 ⟨rfl, hb⟩; have n0_ := Aside0.mk (blk_below (g := gb147) (o := .cells #[.int .u8 ((rd_T24 l0 a1).f0), .int .u8 ((rd_T24 l0 a1).f1), .int .u8 ((rd_T24 l0 a1).f2), .int .i16 ((rd_T24 l0 a1).f3), .int .i32 ((rd_T24 l0 a1).f4)] 24 (0, 0)) (by (with_reducible repeat (first | refine blk_drewN ?_ _ | refine blk_drew ?_ | refine blk_alloc ?_ _)); refine blk_put (cs := #[.int .u8 ((rd_T24 l0 a1).f0), .int .u8 ((rd_T24 l0 a1).f1), .int .u8 ((rd_T24 l0 a1).f2), .int .i16 ((rd_T24 l0 a1).f3), .int .i32 0]) ?_ 4 _ rfl; (with_reducible repeat (first | refine blk_drewN ?_ _ | refine blk_drew ?_ | refine blk_alloc ?_ _)); refine blk_put (cs := #[.int .u8 ((rd_T24 l0 a1).f0), .int .u8 ((rd_T24 l0 a1).f1), .int .u8 ((rd_T24 l0 a1).f2), .int .i16 0, .int .i32 0]) ?_ 3 _ rfl; (with_reducible repeat (first | refine blk_drewN ?_ _ | refine blk_drew ?_ | refine blk_alloc ?_ _)); refine blk_put (cs := #[.int .u8 ((rd_T24 l0 a1).f0), .int .u8 ((rd_T24 l0 a1).f1), .int .u8 0, .int .i16 0, .int .i32 0]) ?_ 2 _ rfl; (with_reducible repeat (first | refine blk_drewN ?_ _ | refine blk_drew ?_ | refine blk_alloc ?_ _)); refine blk_put (cs := #[.int .u8 ((rd_T24 l0 a1).f0), .int .u8 0, .int .u8 0, .int .i16 0, .int .i32 0]) ?_ 1 _ rfl; (with_reducible repeat (first | refine blk_drewN ?_ _ | refine blk_drew ?_ | refine blk_alloc ?_ _)); refine blk_put (cs := #[.int .u8 0, .int .u8 0, .int .u8 0, .int .i16 0, .int .i32 0]) ?_ 0 _ rfl; (with_reducible repeat (first | refine blk_drewN ?_ _ | refine blk_drew ?_ | refine blk_alloc ?_ _)); exact BK147.out) hb); have n1_ := Aside0.mk (below_step (by repeat (first | (with_reducible first | exact HB.out | apply below_alloc | apply pw_below_drewN | apply below_drew1 | refine below_set ?_ GE147.out) | exact HB.out)) hb); clear BK147; clear HB; have BK147 := n0_; have HB := n1_; clear n0_ n1_; (try clear hb); (try clear hb2); (try clear hk); (try clear hi)) | ((with_reducible refine gate_dst (N := 7) rfl ?_); (try (refine gate_guard (by rfl) ?_; dsimp only)); refine box_event ?hg (N := 7) ?hd (cs := #[.int .u8 0, .int .u8 0, .int .u8 0, .int .i16 0, .int .i32 0]) (t := 24) ?hr ?_; (case hd => rfl); (case hg => rfl); (case hr => first | (go_simp; done) | (go_simp; rfl)); intro gb154 hg w15 hbox hb; have n0_ := Aside0.mk (blk_below (g := gb147) (o := .cells #[.int .u8 ((rd_T24 l0 a1).f0), .int .u8 ((rd_T24 l0 a1).f1), .int .u8 ((rd_T24 l0 a1).f2), .int .i16 ((rd_T24 l0 a1).f3), .int .i32 ((rd_T24 l0 a1).f4)] 24 (0, 0)) (by (with_reducible repeat (first | refine blk_drewN ?_ _ | refine blk_drew ?_ | refine blk_alloc ?_ _)); exact BK147.out) hb); have n1_ := Aside0.mk (below_step (by repeat (first | (with_reducible first | exact HB.out | apply below_alloc | apply pw_below_drewN | apply below_drew1 | refine below_set ?_ GE147.out) | exact HB.out)) hb); have n2_ := Aside0.mk (hbox); have n3_ := Aside0.mk ((by rw [hg]; exact (below_size (by repeat (first | (with_reducible first | exact HB.out | apply below_alloc | apply pw_below_drewN | apply below_drew1 | refine below_set ?_ GE147.out) | exact HB.out))) : w.heap.size ≤ gb154)); have n4_ := Aside0.mk ((by rw [hg]; exact (below_size (by repeat (first | (with_reducible first | exact HB.out | apply below_alloc | apply pw_below_drewN | apply below_drew1 | refine below_set ?_ GE147.out) | exact HB.out))) : w.heap.size ≤ gb154)); have n5_ := Aside0.mk ((by rw [hg]; exact Nat.ne_of_lt (blk_lt (g := gb147) (o := .cells #[.int .u8 ((rd_T24 l0 a1).f0), .int .u8 ((rd_T24 l0 a1).f1), .int .u8 ((rd_T24 l0 a1).f2), .int .i16 ((rd_T24 l0 a1).f3), .int .i32 ((rd_T24 l0 a1).f4)] 24 (0, 0)) (by (with_reducible repeat (first | refine blk_drewN ?_ _ | refine blk_drew ?_ | refine blk_alloc ?_ _)); exact BK147.out)) : gb147 ≠ gb154)); have n6_ := Aside0.mk ((by rw [hg]; exact Nat.ne_of_gt (blk_lt (g := gb147) (o := .cells #[.int .u8 ((rd_T24 l0 a1).f0), .int .u8 ((rd_T24 l0 a1).f1), .int .u8 ((rd_T24 l0 a1).f2), .int .i16 ((rd_T24 l0 a1).f3), .int .i32 ((rd_T24 l0 a1).f4)] 24 (0, 0)) (by (with_reducible repeat (first | refine blk_drewN ?_ _ | refine blk_drew ?_ | refine blk_alloc ?_ _)); exact BK147.out)) : gb154 ≠ gb147)); clear BK147; clear HB; have BK147 := n0_; have HB := n1_; have BK154 := n2_; have GW154 := n3_; have GE154 := n4_; have NB147_154 := n5_; have NB154_147 := n6_; clear n0_ n1_ n2_ n3_ n4_ n5_ n6_; clear hb hbox hg; have hnb16 := NB154_147.out; have hnc16 := NB147_154.out; have hcz17_0 : w15.cell? ⟨gb154, 0, none⟩ = some (.int .u8 0) := (blk_cell BK154.out 0).trans rfl; have hcz17_1 : w15.cell? ⟨gb154, 1, none⟩ = some (.int .u8 0) := (blk_cell BK154.out 1).trans rfl; have hcz17_2 : w15.cell? ⟨gb154, 2, none⟩ = some (.int .u8 0) := (blk_cell BK154.out 2).trans rfl; have hcz17_3 : w15.cell? ⟨gb154, 3, none⟩ = some (.int .i16 0) := (blk_cell BK154.out 3).trans rfl; have hcz17_4 : w15.cell? ⟨gb154, 4, none⟩ = some (.int .i32 0) := (blk_cell BK154.out 4).trans rfl; have hfz17_0 := blk_frozen BK154.out 0; have hfz17_1 := blk_frozen BK154.out 1; have hfz17_2 := blk_frozen BK154.out 2; have hfz17_3 := blk_frozen BK154.out 3; have hfz17_4 := blk_frozen BK154.out 4)))
              (try simp only [Act.put, List.setIfInBounds_toArray, List.set_cons_zero, List.set_cons_succ])
              go_cut [40] (fun v40 wc => ∃ (kq : Nat) (x40_10 : Bool), v40 = .bool x40_10 ∧ Aside0 (insn_Plain.j1 kq l0 a1 x40_10 ((rd_T24 l0 a1).f0) ((rd_T24 l0 a1).f1) ((rd_T24 l0 a1).f2) ((rd_T24 l0 a1).f3) ((rd_T24 l0 a1).f4) = some (r1, r2)) ∧ Aside0 (kq ≤ kj2) ∧ Aside0 (wc.heap[gb147]? = some (.cells #[.int .u8 ((rd_T24 l0 a1).f0), .int .u8 ((rd_T24 l0 a1).f1), .int .u8 ((rd_T24 l0 a1).f2), .int .i16 ((rd_T24 l0 a1).f3), .int .i32 ((rd_T24 l0 a1).f4)] 24 (0, 0))) ∧ Aside0 (wc.heap[gb154]? = some (.cells #[.int .u8 t149, .int .u8 t150, .int .u8 t151, .int .i16 t152, .int .i32 t153] 24 (0, 0))) ∧ Aside0 (Below w.heap.size w wc))
              case first =>
                have H := HC11.out
                clear HC11
                by_cases c18 : (!(t149 == ((rd_T24 l0 a1).f0)) || (!(t150 == 0) || (!(t151 == 0) || (!(t152 == 0) || (!(t153 == 0)))))) = true
                · rw [if_pos c18] at H
                  have c18b0 : (!(t149 == ((rd_T24 l0 a1).f0)) || (!(t150 == 0) || (!(t151 == 0) || (!(t152 == 0) || (!(t153 == 0)))))) = true := c18
                  clear c18
                  (first | rw [c18b0] | (simp only [i64_w, i32_w]; rw [c18b0]) | skip)
                  have H' := Aside0.mk H
                  clear H
                  have hnb19 := NB154_147.out
                  have hnc19 := NB147_154.out
                  have hcz20_0 : w15.cell? ⟨gb154, 0, none⟩ = some (.int .u8 0) := (blk_cell BK154.out 0).trans rfl
                  have hcz20_1 : w15.cell? ⟨gb154, 1, none⟩ = some (.int .u8 0) := (blk_cell BK154.out 1).trans rfl
                  have hcz20_2 : w15.cell? ⟨gb154, 2, none⟩ = some (.int .u8 0) := (blk_cell BK154.out 2).trans rfl
                  have hcz20_3 : w15.cell? ⟨gb154, 3, none⟩ = some (.int .i16 0) := (blk_cell BK154.out 3).trans rfl
                  have hcz20_4 : w15.cell? ⟨gb154, 4, none⟩ = some (.int .i32 0) := (blk_cell BK154.out 4).trans rfl
                  have hfz20_0 := blk_frozen BK154.out 0
                  have hfz20_1 := blk_frozen BK154.out 1
                  have hfz20_2 := blk_frozen BK154.out 2
                  have hfz20_3 := blk_frozen BK154.out 3
                  have hfz20_4 := blk_frozen BK154.out 4
                  have hcz21_0 : w15.cell? ⟨gb147, 0, none⟩ = some (.int .u8 ((rd_T24 l0 a1).f0)) := (blk_cell BK147.out 0).trans rfl
                  have hcz21_1 : w15.cell? ⟨gb147, 1, none⟩ = some (.int .u8 ((rd_T24 l0 a1).f1)) := (blk_cell BK147.out 1).trans rfl
                  have hcz21_2 : w15.cell? ⟨gb147, 2, none⟩ = some (.int .u8 ((rd_T24 l0 a1).f2)) := (blk_cell BK147.out 2).trans rfl
                  have hcz21_3 : w15.cell? ⟨gb147, 3, none⟩ = some (.int .i16 ((rd_T24 l0 a1).f3)) := (blk_cell BK147.out 3).trans rfl
                  have hcz21_4 : w15.cell? ⟨gb147, 4, none⟩ = some (.int .i32 ((rd_T24 l0 a1).f4)) := (blk_cell BK147.out 4).trans rfl
                  have hfz21_0 := blk_frozen BK147.out 0
                  have hfz21_1 := blk_frozen BK147.out 1
                  have hfz21_2 := blk_frozen BK147.out 2
                  have hfz21_3 := blk_frozen BK147.out 3
                  have hfz21_4 := blk_frozen BK147.out 4
                  go_wp2
                  repeat (go_quiet (fail); try go_wp2)
                  go_meet
                  case rel => exact ⟨_, (true), (by first | rfl | (simp; done) | (simp [*]; done)), H', ⟨by have := HJ2.out; first | omega | exact Nat.le_refl _⟩, ⟨by (with_reducible repeat (first | refine blk_drewN ?_ _ | refine blk_drew ?_ | refine blk_alloc ?_ _)); refine blk_far ?_ NB147_154.out _; (with_reducible repeat (first | refine blk_drewN ?_ _ | refine blk_drew ?_ | refine blk_alloc ?_ _)); refine blk_far ?_ NB147_154.out _; (with_reducible repeat (first | refine blk_drewN ?_ _ | refine blk_drew ?_ | refine blk_alloc ?_ _)); refine blk_far ?_ NB147_154.out _; (with_reducible repeat (first | refine blk_drewN ?_ _ | refine blk_drew ?_ | refine blk_alloc ?_ _)); refine blk_far ?_ NB147_154.out _; (with_reducible repeat (first | refine blk_drewN ?_ _ | refine blk_drew ?_ | refine blk_alloc ?_ _)); refine blk_far ?_ NB147_154.out _; (with_reducible repeat (first | refine blk_drewN ?_ _ | refine blk_drew ?_ | refine blk_alloc ?_ _)); exact BK147.out⟩, ⟨by (with_reducible repeat (first | refine blk_drewN ?_ _ | refine blk_drew ?_ | refine blk_alloc ?_ _)); refine blk_put (cs := #[.int .u8 t149, .int .u8 t150, .int .u8 t151, .int .i16 t152, .int .i32 0]) ?_ 4 _ rfl; (with_reducible repeat (first | refine blk_drewN ?_ _ | refine blk_drew ?_ | refine blk_alloc ?_ _)); refine blk_put (cs := #[.int .u8 t149, .int .u8 t150, .int .u8 t151, .int .i16 0, .int .i32 0]) ?_ 3 _ rfl; (with_reducible repeat (first | refine blk_drewN ?_ _ | refine blk_drew ?_ | refine blk_alloc ?_ _)); refine blk_put (cs := #[.int .u8 t149, .int .u8 t150, .int .u8 0, .int .i16 0, .int .i32 0]) ?_ 2 _ rfl; (with_reducible repeat (first | refine blk_drewN ?_ _ | refine blk_drew ?_ | refine blk_alloc ?_ _)); refine blk_put (cs := #[.int .u8 t149, .int .u8 0, .int .u8 0, .int .i16 0, .int .i32 0]) ?_ 1 _ rfl; (with_reducible repeat (first | refine blk_drewN ?_ _ | refine blk_drew ?_ | refine blk_alloc ?_ _)); refine blk_put (cs := #[.int .u8 0, .int .u8 0, .int .u8 0, .int .i16 0, .int .i32 0]) ?_ 0 _ rfl; (with_reducible repeat (first | refine blk_drewN ?_ _ | refine blk_drew ?_ | refine blk_alloc ?_ _)); exact BK154.out⟩, ⟨by repeat (first | (with_reducible first | exact HB.out | apply below_alloc | apply pw_below_drewN | apply below_drew1 | refine below_set ?_ GE147.out | refine below_set ?_ GE154.out) | exact HB.out)⟩⟩
                · rw [if_neg c18] at H
                  have c18b0 : (!(t149 == ((rd_T24 l0 a1).f0)) || (!(t150 == 0) || (!(t151 == 0) || (!(t152 == 0) || (!(t153 == 0)))))) = false := by simpa using c18
                  clear c18
                  (first | rw [c18b0] | (simp only [i64_w, i32_w]; rw [c18b0]) | skip)
                  by_cases c22 : ((rd_T24 l0 a1).f1) > 10
                  · rw [if_pos c22] at H
                    have c22b0 : decide (10 < ((rd_T24 l0 a1).f1)) = true := decide_eq_true c22
                    clear c22
                    have H' := Aside0.mk H
                    clear H
                    have hnb23 := NB154_147.out
                    have hnc23 := NB147_154.out
                    have hcz24_0 : w15.cell? ⟨gb154, 0, none⟩ = some (.int .u8 0) := (blk_cell BK154.out 0).trans rfl
                    have hcz24_1 : w15.cell? ⟨gb154, 1, none⟩ = some (.int .u8 0) := (blk_cell BK154.out 1).trans rfl
                    have hcz24_2 : w15.cell? ⟨gb154, 2, none⟩ = some (.int .u8 0) := (blk_cell BK154.out 2).trans rfl
                    have hcz24_3 : w15.cell? ⟨gb154, 3, none⟩ = some (.int .i16 0) := (blk_cell BK154.out 3).trans rfl
                    have hcz24_4 : w15.cell? ⟨gb154, 4, none⟩ = some (.int .i32 0) := (blk_cell BK154.out 4).trans rfl
                    have hfz24_0 := blk_frozen BK154.out 0
                    have hfz24_1 := blk_frozen BK154.out 1
                    have hfz24_2 := blk_frozen BK154.out 2
                    have hfz24_3 := blk_frozen BK154.out 3
                    have hfz24_4 := blk_frozen BK154.out 4
                    have hcz25_0 : w15.cell? ⟨gb147, 0, none⟩ = some (.int .u8 ((rd_T24 l0 a1).f0)) := (blk_cell BK147.out 0).trans rfl
                    have hcz25_1 : w15.cell? ⟨gb147, 1, none⟩ = some (.int .u8 ((rd_T24 l0 a1).f1)) := (blk_cell BK147.out 1).trans rfl
                    have hcz25_2 : w15.cell? ⟨gb147, 2, none⟩ = some (.int .u8 ((rd_T24 l0 a1).f2)) := (blk_cell BK147.out 2).trans rfl
                    have hcz25_3 : w15.cell? ⟨gb147, 3, none⟩ = some (.int .i16 ((rd_T24 l0 a1).f3)) := (blk_cell BK147.out 3).trans rfl
                    have hcz25_4 : w15.cell? ⟨gb147, 4, none⟩ = some (.int .i32 ((rd_T24 l0 a1).f4)) := (blk_cell BK147.out 4).trans rfl
                    have hfz25_0 := blk_frozen BK147.out 0
                    have hfz25_1 := blk_frozen BK147.out 1
                    have hfz25_2 := blk_frozen BK147.out 2
                    have hfz25_3 := blk_frozen BK147.out 3
                    have hfz25_4 := blk_frozen BK147.out 4
                    go_wp2
                    repeat (go_quiet (fail); try go_wp2)
                    go_meet
                    case rel => exact ⟨_, (true), (by first | rfl | (simp; done) | (simp [*]; done)), H', ⟨by have := HJ2.out; first | omega | exact Nat.le_refl _⟩, ⟨by (with_reducible repeat (first | refine blk_drewN ?_ _ | refine blk_drew ?_ | refine blk_alloc ?_ _)); refine blk_far ?_ NB147_154.out _; (with_reducible repeat (first | refine blk_drewN ?_ _ | refine blk_drew ?_ | refine blk_alloc ?_ _)); refine blk_far ?_ NB147_154.out _; (with_reducible repeat (first | refine blk_drewN ?_ _ | refine blk_drew ?_ | refine blk_alloc ?_ _)); refine blk_far ?_ NB147_154.out _; (with_reducible repeat (first | refine blk_drewN ?_ _ | refine blk_drew ?_ | refine blk_alloc ?_ _)); refine blk_far ?_ NB147_154.out _; (with_reducible repeat (first | refine blk_drewN ?_ _ | refine blk_drew ?_ | refine blk_alloc ?_ _)); refine blk_far ?_ NB147_154.out _; (with_reducible repeat (first | refine blk_drewN ?_ _ | refine blk_drew ?_ | refine blk_alloc ?_ _)); exact BK147.out⟩, ⟨by (with_reducible repeat (first | refine blk_drewN ?_ _ | refine blk_drew ?_ | refine blk_alloc ?_ _)); refine blk_put (cs := #[.int .u8 t149, .int .u8 t150, .int .u8 t151, .int .i16 t152, .int .i32 0]) ?_ 4 _ rfl; (with_reducible repeat (first | refine blk_drewN ?_ _ | refine blk_drew ?_ | refine blk_alloc ?_ _)); refine blk_put (cs := #[.int .u8 t149, .int .u8 t150, .int .u8 t151, .int .i16 0, .int .i32 0]) ?_ 3 _ rfl; (with_reducible repeat (first | refine blk_drewN ?_ _ | refine blk_drew ?_ | refine blk_alloc ?_ _)); refine blk_put (cs := #[.int .u8 t149, .int .u8 t150, .int .u8 0, .int .i16 0, .int .i32 0]) ?_ 2 _ rfl; (with_reducible repeat (first | refine blk_drewN ?_ _ | refine blk_drew ?_ | refine blk_alloc ?_ _)); refine blk_put (cs := #[.int .u8 t149, .int .u8 0, .int .u8 0, .int .i16 0, .int .i32 0]) ?_ 1 _ rfl; (with_reducible repeat (first | refine blk_drewN ?_ _ | refine blk_drew ?_ | refine blk_alloc ?_ _)); refine blk_put (cs := #[.int .u8 0, .int .u8 0, .int .u8 0, .int .i16 0, .int .i32 0]) ?_ 0 _ rfl; (with_reducible repeat (first | refine blk_drewN ?_ _ | refine blk_drew ?_ | refine blk_alloc ?_ _)); exact BK154.out⟩, ⟨by repeat (first | (with_reducible first | exact HB.out | apply below_alloc | apply pw_below_drewN | apply below_drew1 | refine below_set ?_ GE147.out | refine below_set ?_ GE154.out) | exact HB.out)⟩⟩
                  · rw [if_neg c22] at H
                    have c22b0 : decide (10 < ((rd_T24 l0 a1).f1)) = false := decide_eq_false c22
                    clear c22
                    have H' := Aside0.mk H
                    clear H
                    have hnb26 := NB154_147.out
                    have hnc26 := NB147_154.out
                    have hcz27_0 : w15.cell? ⟨gb154, 0, none⟩ = some (.int .u8 0) := (blk_cell BK154.out 0).trans rfl
                    have hcz27_1 : w15.cell? ⟨gb154, 1, none⟩ = some (.int .u8 0) := (blk_cell BK154.out 1).trans rfl
                    have hcz27_2 : w15.cell? ⟨gb154, 2, none⟩ = some (.int .u8 0) := (blk_cell BK154.out 2).trans rfl
                    have hcz27_3 : w15.cell? ⟨gb154, 3, none⟩ = some (.int .i16 0) := (blk_cell BK154.out 3).trans rfl
                    have hcz27_4 : w15.cell? ⟨gb154, 4, none⟩ = some (.int .i32 0) := (blk_cell BK154.out 4).trans rfl
                    have hfz27_0 := blk_frozen BK154.out 0
                    have hfz27_1 := blk_frozen BK154.out 1
                    have hfz27_2 := blk_frozen BK154.out 2
                    have hfz27_3 := blk_frozen BK154.out 3
                    have hfz27_4 := blk_frozen BK154.out 4
                    have hcz28_0 : w15.cell? ⟨gb147, 0, none⟩ = some (.int .u8 ((rd_T24 l0 a1).f0)) := (blk_cell BK147.out 0).trans rfl
                    have hcz28_1 : w15.cell? ⟨gb147, 1, none⟩ = some (.int .u8 ((rd_T24 l0 a1).f1)) := (blk_cell BK147.out 1).trans rfl
                    have hcz28_2 : w15.cell? ⟨gb147, 2, none⟩ = some (.int .u8 ((rd_T24 l0 a1).f2)) := (blk_cell BK147.out 2).trans rfl
                    have hcz28_3 : w15.cell? ⟨gb147, 3, none⟩ = some (.int .i16 ((rd_T24 l0 a1).f3)) := (blk_cell BK147.out 3).trans rfl
                    have hcz28_4 : w15.cell? ⟨gb147, 4, none⟩ = some (.int .i32 ((rd_T24 l0 a1).f4)) := (blk_cell BK147.out 4).trans rfl
                    have hfz28_0 := blk_frozen BK147.out 0
                    have hfz28_1 := blk_frozen BK147.out 1
                    have hfz28_2 := blk_frozen BK147.out 2
                    have hfz28_3 := blk_frozen BK147.out 3
                    have hfz28_4 := blk_frozen BK147.out 4
                    go_wp2
                    repeat (go_quiet (fail); try go_wp2)
                    go_meet
                    case rel => exact ⟨_, (decide (((rd_T24 l0 a1).f2) > 10)), (by first | rfl | (simp; done) | (simp [*]; done)), H', ⟨by have := HJ2.out; first | omega | exact Nat.le_refl _⟩, ⟨by (with_reducible repeat (first | refine blk_drewN ?_ _ | refine blk_drew ?_ | refine blk_alloc ?_ _)); refine blk_far ?_ NB147_154.out _; (with_reducible repeat (first | refine blk_drewN ?_ _ | refine blk_drew ?_ | refine blk_alloc ?_ _)); refine blk_far ?_ NB147_154.out _; (with_reducible repeat (first | refine blk_drewN ?_ _ | refine blk_drew ?_ | refine blk_alloc ?_ _)); refine blk_far ?_ NB147_154.out _; (with_reducible repeat (first | refine blk_drewN ?_ _ | refine blk_drew ?_ | refine blk_alloc ?_ _)); refine blk_far ?_ NB147_154.out _; (with_reducible repeat (first | refine blk_drewN ?_ _ | refine blk_drew ?_ | refine blk_alloc ?_ _)); refine blk_far ?_ NB147_154.out _; (with_reducible repeat (first | refine blk_drewN ?_ _ | refine blk_drew ?_ | refine blk_alloc ?_ _)); exact BK147.out⟩, ⟨by (with_reducible repeat (first | refine blk_drewN ?_ _ | refine blk_drew ?_ | refine blk_alloc ?_ _)); refine blk_put (cs := #[.int .u8 t149, .int .u8 t150, .int .u8 t151, .int .i16 t152, .int .i32 0]) ?_ 4 _ rfl; (with_reducible repeat (first | refine blk_drewN ?_ _ | refine blk_drew ?_ | refine blk_alloc ?_ _)); refine blk_put (cs := #[.int .u8 t149, .int .u8 t150, .int .u8 t151, .int .i16 0, .int .i32 0]) ?_ 3 _ rfl; (with_reducible repeat (first | refine blk_drewN ?_ _ | refine blk_drew ?_ | refine blk_alloc ?_ _)); refine blk_put (cs := #[.int .u8 t149, .int .u8 t150, .int .u8 0, .int .i16 0, .int .i32 0]) ?_ 2 _ rfl; (with_reducible repeat (first | refine blk_drewN ?_ _ | refine blk_drew ?_ | refine blk_alloc ?_ _)); refine blk_put (cs := #[.int .u8 t149, .int .u8 0, .int .u8 0, .int .i16 0, .int .i32 0]) ?_ 1 _ rfl; (with_reducible repeat (first | refine blk_drewN ?_ _ | refine blk_drew ?_ | refine blk_alloc ?_ _)); refine blk_put (cs := #[.int .u8 0, .int .u8 0, .int .u8 0, .int .i16 0, .int .i32 0]) ?_ 0 _ rfl; (with_reducible repeat (first | refine blk_drewN ?_ _ | refine blk_drew ?_ | refine blk_alloc ?_ _)); exact BK154.out⟩, ⟨by repeat (first | (with_reducible first | exact HB.out | apply below_alloc | apply pw_below_drewN | apply below_drew1 | refine below_set ?_ GE147.out | refine below_set ?_ GE154.out) | exact HB.out)⟩⟩
              case rest =>
                clear HC11
                try clear c1
                try clear p1
                try clear q1
                try clear hx1
                try clear c2
                try clear p2
                try clear c4
                try clear c4b0
                try clear c5
                try clear c6
                try clear c6b0
                try clear c7
                try clear c7b0
                try clear c9
                try clear p14
                try clear q14
                try clear hx14
                try clear c16
                try clear c18
                try clear c18b0
                try clear c19
                try clear c22
                try clear c22b0
                try clear c23
                try clear c26
                try clear hcz13_0
                try clear hcz13_1
                try clear hcz13_2
                try clear hcz13_3
                try clear hcz13_4
                try clear hcz17_0
                try clear hcz17_1
                try clear hcz17_2
                try clear hcz17_3
                try clear hcz17_4
                try clear hcz20_0
                try clear hcz20_1
                try clear hcz20_2
                try clear hcz20_3
                try clear hcz20_4
                try clear hcz21_0
                try clear hcz21_1
                try clear hcz21_2
                try clear hcz21_3
                try clear hcz21_4
                try clear hcz24_0
                try clear hcz24_1
                try clear hcz24_2
                try clear hcz24_3
                try clear hcz24_4
                try clear hcz25_0
                try clear hcz25_1
                try clear hcz25_2
                try clear hcz25_3
                try clear hcz25_4
                try clear hcz27_0
                try clear hcz27_1
                try clear hcz27_2
                try clear hcz27_3
                try clear hcz27_4
                try clear hcz28_0
                try clear hcz28_1
                try clear hcz28_2
                try clear hcz28_3
                try clear hcz28_4
                try clear hfz13_0
                try clear hfz13_1
                try clear hfz13_2
                try clear hfz13_3
                try clear hfz13_4
                try clear hfz17_0
                try clear hfz17_1
                try clear hfz17_2
                try clear hfz17_3
                try clear hfz17_4
                try clear hfz20_0
                try clear hfz20_1
                try clear hfz20_2
                try clear hfz20_3
                try clear hfz20_4
                try clear hfz21_0
                try clear hfz21_1
                try clear hfz21_2
                try clear hfz21_3
                try clear hfz21_4
                try clear hfz24_0
                try clear hfz24_1
                try clear hfz24_2
                try clear hfz24_3
                try clear hfz24_4
                try clear hfz25_0
                try clear hfz25_1
                try clear hfz25_2
                try clear hfz25_3
                try clear hfz25_4
                try clear hfz27_0
                try clear hfz27_1
                try clear hfz27_2
                try clear hfz27_3
                try clear hfz27_4
                try clear hfz28_0
                try clear hfz28_1
                try clear hfz28_2
                try clear hfz28_3
                try clear hfz28_4
                try clear hx146_0
                try clear hx146_1
                try clear hx146_2
                try clear hx146_3
                try clear hx146_4
                try clear p146
                try clear p2
                try clear q146
                obtain ⟨kq, x40_10, rfl, HA, HJ10, BK147, BK154, HB⟩ := hcut
                cases kq with
                | zero => exact absurd HA.out (by simp [insn_Plain.j1])
                | succ kj10 =>
                  have H := HA.out
                  clear HA
                  simp only [insn_Plain.j1] at H
                  by_cases c29 : x40_10 = true
                  · subst c29
                    have H1 : (some (0, 42)) = some (r1, r2) := by rw [if_pos rfl] at H; exact H
                    clear H
                    have H := H1
                    clear H1
                    simp only [Option.some.injEq, Prod.mk.injEq] at H
                    obtain ⟨rfl, rfl⟩ := H
                    go_wp2
                    repeat (go_quiet (fail); try go_wp2)
                    go_ret2
                    exact ⟨by first | rfl | (simp [errW_none, errW_some] <;> rfl) | (simp [*, errW_none, errW_some] <;> rfl), by repeat (first | (with_reducible first | exact HB.out | apply below_alloc | apply pw_below_drewN | apply below_drew1 | refine below_set ?_ GE147.out | refine below_set ?_ GE154.out) | exact HB.out)⟩
                  · replace c29 := Bool.eq_false_iff.mpr c29
                    subst c29
                    have H1 : (if ((rd_T24 l0 a1).f0) = 133 then (insn_Plain.j2 kj10 l0 a1 (decide (((rd_T24 l0 a1).f2) > 1)) ((rd_T24 l0 a1).f0) ((rd_T24 l0 a1).f1) ((rd_T24 l0 a1).f2) ((rd_T24 l0 a1).f3) ((rd_T24 l0 a1).f4)) else (insn_Plain.j2 kj10 l0 a1 false ((rd_T24 l0 a1).f0) ((rd_T24 l0 a1).f1) ((rd_T24 l0 a1).f2) ((rd_T24 l0 a1).f3) ((rd_T24 l0 a1).f4))) = some (r1, r2) := by rw [if_neg (show ¬ (false = true) by decide)] at H; exact H
                    clear H
                    have H := H1
                    clear H1
                    have HC30 := Aside0.mk H
                    clear H
                    go_upto_region 9 with (fail)
                    repeat (go_quiet (fail); go_upto_region 9 with (fail))
                    go_cut [48] (fun v48 wc => ∃ (kq : Nat) (x48_29 : Bool), v48 = .bool x48_29 ∧ Aside0 (insn_Plain.j2 kq l0 a1 x48_29 ((rd_T24 l0 a1).f0) ((rd_T24 l0 a1).f1) ((rd_T24 l0 a1).f2) ((rd_T24 l0 a1).f3) ((rd_T24 l0 a1).f4) = some (r1, r2)) ∧ Aside0 (kq ≤ kj10) ∧ Aside0 (wc.heap[gb147]? = some (.cells #[.int .u8 ((rd_T24 l0 a1).f0), .int .u8 ((rd_T24 l0 a1).f1), .int .u8 ((rd_T24 l0 a1).f2), .int .i16 ((rd_T24 l0 a1).f3), .int .i32 ((rd_T24 l0 a1).f4)] 24 (0, 0))) ∧ Aside0 (wc.heap[gb154]? = some (.cells #[.int .u8 t149, .int .u8 t150, .int .u8 t151, .int .i16 t152, .int .i32 t153] 24 (0, 0))) ∧ Aside0 (Below w.heap.size w wc))
                    case first =>
                      have H := HC30.out
                      clear HC30
                      by_cases c31 : ((rd_T24 l0 a1).f0) = 133
                      · rw [if_pos c31] at H
                        have c31b0 : (((rd_T24 l0 a1).f0) == 133) = true := beq_iff_eq.mpr c31
                        have c31b1 : (((rd_T24 l0 a1).f0) != 133) = false := bne_eq_false_iff_eq.mpr c31
                        clear c31
                        (first | rw [c31b0] | (simp only [i64_w, i32_w]; rw [c31b0]) | skip)
                        have H' := Aside0.mk H
                        clear H
                        have hnb32 := NB147_154.out
                        have hnc32 := NB154_147.out
                        have hcz33_0 : wc.cell? ⟨gb147, 0, none⟩ = some (.int .u8 ((rd_T24 l0 a1).f0)) := (blk_cell BK147.out 0).trans rfl
                        have hcz33_1 : wc.cell? ⟨gb147, 1, none⟩ = some (.int .u8 ((rd_T24 l0 a1).f1)) := (blk_cell BK147.out 1).trans rfl
                        have hcz33_2 : wc.cell? ⟨gb147, 2, none⟩ = some (.int .u8 ((rd_T24 l0 a1).f2)) := (blk_cell BK147.out 2).trans rfl
                        have hcz33_3 : wc.cell? ⟨gb147, 3, none⟩ = some (.int .i16 ((rd_T24 l0 a1).f3)) := (blk_cell BK147.out 3).trans rfl
                        have hcz33_4 : wc.cell? ⟨gb147, 4, none⟩ = some (.int .i32 ((rd_T24 l0 a1).f4)) := (blk_cell BK147.out 4).trans rfl
                        have hfz33_0 := blk_frozen BK147.out 0
                        have hfz33_1 := blk_frozen BK147.out 1
                        have hfz33_2 := blk_frozen BK147.out 2
                        have hfz33_3 := blk_frozen BK147.out 3
                        have hfz33_4 := blk_frozen BK147.out 4
                        go_wp2
                        repeat (go_quiet (fail); try go_wp2)
                        go_meet
                        case rel => exact ⟨_, (decide (((rd_T24 l0 a1).f2) > 1)), (by first | rfl | (simp; done) | (simp [*]; done)), H', ⟨by have := HJ2.out; have := HJ10.out; first | omega | exact Nat.le_refl _⟩, ⟨by (with_reducible repeat (first | refine blk_drewN ?_ _ | refine blk_drew ?_ | refine blk_alloc ?_ _)); exact BK147.out⟩, ⟨by (with_reducible repeat (first | refine blk_drewN ?_ _ | refine blk_drew ?_ | refine blk_alloc ?_ _)); exact BK154.out⟩, ⟨by repeat (first | (with_reducible first | exact HB.out | apply below_alloc | apply pw_below_drewN | apply below_drew1 | refine below_set ?_ GE147.out | refine below_set ?_ GE154.out) | exact HB.out)⟩⟩
                      · rw [if_neg c31] at H
                        have c31b0 : (((rd_T24 l0 a1).f0) == 133) = false := beq_eq_false_iff_ne.mpr c31
                        have c31b1 : (((rd_T24 l0 a1).f0) != 133) = true := bne_iff_ne.mpr c31
                        (first | rw [c31b0] | (simp only [i64_w, i32_w]; rw [c31b0]) | skip)
                        have H' := Aside0.mk H
                        clear H
                        have hnb34 := NB147_154.out
                        have hnc34 := NB154_147.out
                        have hcz35_0 : wc.cell? ⟨gb147, 0, none⟩ = some (.int .u8 ((rd_T24 l0 a1).f0)) := (blk_cell BK147.out 0).trans rfl
                        have hcz35_1 : wc.cell? ⟨gb147, 1, none⟩ = some (.int .u8 ((rd_T24 l0 a1).f1)) := (blk_cell BK147.out 1).trans rfl
                        have hcz35_2 : wc.cell? ⟨gb147, 2, none⟩ = some (.int .u8 ((rd_T24 l0 a1).f2)) := (blk_cell BK147.out 2).trans rfl
                        have hcz35_3 : wc.cell? ⟨gb147, 3, none⟩ = some (.int .i16 ((rd_T24 l0 a1).f3)) := (blk_cell BK147.out 3).trans rfl
                        have hcz35_4 : wc.cell? ⟨gb147, 4, none⟩ = some (.int .i32 ((rd_T24 l0 a1).f4)) := (blk_cell BK147.out 4).trans rfl
                        have hfz35_0 := blk_frozen BK147.out 0
                        have hfz35_1 := blk_frozen BK147.out 1
                        have hfz35_2 := blk_frozen BK147.out 2
                        have hfz35_3 := blk_frozen BK147.out 3
                        have hfz35_4 := blk_frozen BK147.out 4
                        go_wp2
                        repeat (go_quiet (fail); try go_wp2)
                        go_meet
                        case rel => exact ⟨_, (false), (by first | rfl | (simp; done) | (simp [*]; done)), H', ⟨by have := HJ2.out; have := HJ10.out; first | omega | exact Nat.le_refl _⟩, ⟨by (with_reducible repeat (first | refine blk_drewN ?_ _ | refine blk_drew ?_ | refine blk_alloc ?_ _)); exact BK147.out⟩, ⟨by (with_reducible repeat (first | refine blk_drewN ?_ _ | refine blk_drew ?_ | refine blk_alloc ?_ _)); exact BK154.out⟩, ⟨by repeat (first | (with_reducible first | exact HB.out | apply below_alloc | apply pw_below_drewN | apply below_drew1 | refine below_set ?_ GE147.out | refine below_set ?_ GE154.out) | exact HB.out)⟩⟩
                    case rest =>
                      clear HC30
                      try clear c1
                      try clear p1
                      try clear q1
                      try clear hx1
                      try clear c2
                      try clear p2
                      try clear c3
                      try clear c4
                      try clear c4b0
                      try clear c5
                      try clear c6
                      try clear c6b0
                      try clear c7
                      try clear c7b0
                      try clear c9
                      try clear p14
                      try clear q14
                      try clear hx14
                      try clear c16
                      try clear c18
                      try clear c18b0
                      try clear c19
                      try clear c22
                      try clear c22b0
                      try clear c23
                      try clear c26
                      try clear c29
                      try clear c31
                      try clear c31b0
                      try clear c31b1
                      try clear c32
                      try clear c34
                      try clear hcz13_0
                      try clear hcz13_1
                      try clear hcz13_2
                      try clear hcz13_3
                      try clear hcz13_4
                      try clear hcz17_0
                      try clear hcz17_1
                      try clear hcz17_2
                      try clear hcz17_3
                      try clear hcz17_4
                      try clear hcz20_0
                      try clear hcz20_1
                      try clear hcz20_2
                      try clear hcz20_3
                      try clear hcz20_4
                      try clear hcz21_0
                      try clear hcz21_1
                      try clear hcz21_2
                      try clear hcz21_3
                      try clear hcz21_4
                      try clear hcz24_0
                      try clear hcz24_1
                      try clear hcz24_2
                      try clear hcz24_3
                      try clear hcz24_4
                      try clear hcz25_0
                      try clear hcz25_1
                      try clear hcz25_2
                      try clear hcz25_3
                      try clear hcz25_4
                      try clear hcz27_0
                      try clear hcz27_1
                      try clear hcz27_2
                      try clear hcz27_3
                      try clear hcz27_4
                      try clear hcz28_0
                      try clear hcz28_1
                      try clear hcz28_2
                      try clear hcz28_3
                      try clear hcz28_4
                      try clear hcz33_0
                      try clear hcz33_1
                      try clear hcz33_2
                      try clear hcz33_3
                      try clear hcz33_4
                      try clear hcz35_0
                      try clear hcz35_1
                      try clear hcz35_2
                      try clear hcz35_3
                      try clear hcz35_4
                      try clear hfz13_0
                      try clear hfz13_1
                      try clear hfz13_2
                      try clear hfz13_3
                      try clear hfz13_4
                      try clear hfz17_0
                      try clear hfz17_1
                      try clear hfz17_2
                      try clear hfz17_3
                      try clear hfz17_4
                      try clear hfz20_0
                      try clear hfz20_1
                      try clear hfz20_2
                      try clear hfz20_3
                      try clear hfz20_4
                      try clear hfz21_0
                      try clear hfz21_1
                      try clear hfz21_2
                      try clear hfz21_3
                      try clear hfz21_4
                      try clear hfz24_0
                      try clear hfz24_1
                      try clear hfz24_2
                      try clear hfz24_3
                      try clear hfz24_4
                      try clear hfz25_0
                      try clear hfz25_1
                      try clear hfz25_2
                      try clear hfz25_3
                      try clear hfz25_4
                      try clear hfz27_0
                      try clear hfz27_1
                      try clear hfz27_2
                      try clear hfz27_3
                      try clear hfz27_4
                      try clear hfz28_0
                      try clear hfz28_1
                      try clear hfz28_2
                      try clear hfz28_3
                      try clear hfz28_4
                      try clear hfz33_0
                      try clear hfz33_1
                      try clear hfz33_2
                      try clear hfz33_3
                      try clear hfz33_4
                      try clear hfz35_0
                      try clear hfz35_1
                      try clear hfz35_2
                      try clear hfz35_3
                      try clear hfz35_4
                      try clear hx146_0
                      try clear hx146_1
                      try clear hx146_2
                      try clear hx146_3
                      try clear hx146_4
                      try clear p1
                      try clear p14
                      try clear p146
                      try clear p2
                      try clear q1
                      try clear q14
                      try clear q146
                      obtain ⟨kq, x48_29, rfl, HA, HJ29, BK147, BK154, HB⟩ := hcut
                      cases kq with
                      | zero => exact absurd HA.out (by simp [insn_Plain.j2])
                      | succ kj29 =>
                        have H := HA.out
                        clear HA
                        simp only [insn_Plain.j2] at H
                        by_cases c36 : x48_29 = true
                        · subst c36
                          have H1 : (some (0, 42)) = some (r1, r2) := by rw [if_pos rfl] at H; exact H
                          clear H
                          have H := H1
                          clear H1
                          simp only [Option.some.injEq, Prod.mk.injEq] at H
                          obtain ⟨rfl, rfl⟩ := H
                          go_wp2
                          repeat (go_quiet (fail); try go_wp2)
                          go_ret2
                          exact ⟨by first | rfl | (simp [errW_none, errW_some] <;> rfl) | (simp [*, errW_none, errW_some] <;> rfl), by repeat (first | (with_reducible first | exact HB.out | apply below_alloc | apply pw_below_drewN | apply below_drew1 | refine below_set ?_ GE147.out | refine below_set ?_ GE154.out) | exact HB.out)⟩
                        · replace c36 := Bool.eq_false_iff.mpr c36
                          subst c36
                          have H1 : ((insn_Wide.f ((rd_T24 l0 a1).f0)).bind fun t155 => (if t155 = true then (if ((rd_T24 l0 a1).f2) > 1 then (some (0, 42)) else (if (wrap64 (a1 + 1)) ≥ (l0.length : Int) then (some (0, 42)) else (if 0 ≤ (wrap64 (a1 + 1)) then (if (wrap64 (a1 + 1)) < (l0.length : Int) then (if (!(((rd_T24 l0 (wrap64 (a1 + 1))).f0) == 0) || (!(((rd_T24 l0 (wrap64 (a1 + 1))).f1) == 0) || (!(((rd_T24 l0 (wrap64 (a1 + 1))).f2) == 0) || (!(((rd_T24 l0 (wrap64 (a1 + 1))).f3) == 0))))) = true then (some (0, 42)) else (some (2, 0))) else (none)) else (none)))) else (some (1, 0)))) = some (r1, r2) := by rw [if_neg (show ¬ (false = true) by decide)] at H; exact H
                          clear H
                          have H := H1
                          clear H1
                          replace H := Option.bind_eq_some_iff.mp H
                          obtain ⟨t155, A370, H⟩ := H
                          replace H : (if t155 = true then (if ((rd_T24 l0 a1).f2) > 1 then (some (0, 42)) else (if (wrap64 (a1 + 1)) ≥ (l0.length : Int) then (some (0, 42)) else (if 0 ≤ (wrap64 (a1 + 1)) then (if (wrap64 (a1 + 1)) < (l0.length : Int) then (if (!(((rd_T24 l0 (wrap64 (a1 + 1))).f0) == 0) || (!(((rd_T24 l0 (wrap64 (a1 + 1))).f1) == 0) || (!(((rd_T24 l0 (wrap64 (a1 + 1))).f2) == 0) || (!(((rd_T24 l0 (wrap64 (a1 + 1))).f3) == 0))))) = true then (some (0, 42)) else (some (2, 0))) else (none)) else (none)))) else (some (1, 0))) = some (r1, r2) := H
                          have A37 := Aside0.mk A370
                          clear A370
                          by_cases c38 : t155 = true
                          · subst c38
                            have H1 : (if ((rd_T24 l0 a1).f2) > 1 then (some (0, 42)) else (if (wrap64 (a1 + 1)) ≥ (l0.length : Int) then (some (0, 42)) else (if 0 ≤ (wrap64 (a1 + 1)) then (if (wrap64 (a1 + 1)) < (l0.length : Int) then (if (!(((rd_T24 l0 (wrap64 (a1 + 1))).f0) == 0) || (!(((rd_T24 l0 (wrap64 (a1 + 1))).f1) == 0) || (!(((rd_T24 l0 (wrap64 (a1 + 1))).f2) == 0) || (!(((rd_T24 l0 (wrap64 (a1 + 1))).f3) == 0))))) = true then (some (0, 42)) else (some (2, 0))) else (none)) else (none)))) = some (r1, r2) := by rw [if_pos rfl] at H; exact H
                            clear H
                            have H := H1
                            clear H1
                            by_cases c39 : ((rd_T24 l0 a1).f2) > 1
                            · rw [if_pos c39] at H
                              have c39b0 : decide (1 < ((rd_T24 l0 a1).f2)) = true := decide_eq_true c39
                              clear c39
                              simp only [Option.some.injEq, Prod.mk.injEq] at H
                              obtain ⟨rfl, rfl⟩ := H
                              have hnb40 := NB147_154.out
                              have hnc40 := NB154_147.out
                              have hcz41_0 : wc.cell? ⟨gb147, 0, none⟩ = some (.int .u8 ((rd_T24 l0 a1).f0)) := (blk_cell BK147.out 0).trans rfl
                              have hcz41_1 : wc.cell? ⟨gb147, 1, none⟩ = some (.int .u8 ((rd_T24 l0 a1).f1)) := (blk_cell BK147.out 1).trans rfl
                              have hcz41_2 : wc.cell? ⟨gb147, 2, none⟩ = some (.int .u8 ((rd_T24 l0 a1).f2)) := (blk_cell BK147.out 2).trans rfl
                              have hcz41_3 : wc.cell? ⟨gb147, 3, none⟩ = some (.int .i16 ((rd_T24 l0 a1).f3)) := (blk_cell BK147.out 3).trans rfl
                              have hcz41_4 : wc.cell? ⟨gb147, 4, none⟩ = some (.int .i32 ((rd_T24 l0 a1).f4)) := (blk_cell BK147.out 4).trans rfl
                              have hfz41_0 := blk_frozen BK147.out 0
                              have hfz41_1 := blk_frozen BK147.out 1
                              have hfz41_2 := blk_frozen BK147.out 2
                              have hfz41_3 := blk_frozen BK147.out 3
                              have hfz41_4 := blk_frozen BK147.out 4
                              go_wp2_with (first | (go_at_call 24; (with_reducible refine (insn_Wide.calls ((rd_T24 l0 a1).f0) true _ A37.out).mono ?_); rintro e w' ⟨rfl, ⟨nd, rfl⟩⟩; (try first | exact ⟨rfl, _, World.drewN_drewN _ _ _⟩ | exact ⟨rfl, _, Eq.trans (World.drewN_drewN _ _ _) (congrArg (World.drewN _) (Nat.add_assoc _ _ _))⟩)))
                              repeat (go_quiet (first | (go_at_call 24; (with_reducible refine (insn_Wide.calls ((rd_T24 l0 a1).f0) true _ A37.out).mono ?_); rintro e w' ⟨rfl, ⟨nd, rfl⟩⟩; (try first | exact ⟨rfl, _, World.drewN_drewN _ _ _⟩ | exact ⟨rfl, _, Eq.trans (World.drewN_drewN _ _ _) (congrArg (World.drewN _) (Nat.add_assoc _ _ _))⟩))); try go_wp2_with (first | (go_at_call 24; (with_reducible refine (insn_Wide.calls ((rd_T24 l0 a1).f0) true _ A37.out).mono ?_); rintro e w' ⟨rfl, ⟨nd, rfl⟩⟩; (try first | exact ⟨rfl, _, World.drewN_drewN _ _ _⟩ | exact ⟨rfl, _, Eq.trans (World.drewN_drewN _ _ _) (congrArg (World.drewN _) (Nat.add_assoc _ _ _))⟩))))
                              go_ret2
                              exact ⟨by first | rfl | (simp [errW_none, errW_some] <;> rfl) | (simp [*, errW_none, errW_some] <;> rfl), by repeat (first | (with_reducible first | exact HB.out | apply below_alloc | apply pw_below_drewN | apply below_drew1 | refine below_set ?_ GE147.out | refine below_set ?_ GE154.out) | exact HB.out)⟩
                            · rw [if_neg c39] at H
                              have c39b0 : decide (1 < ((rd_T24 l0 a1).f2)) = false := decide_eq_false c39
                              clear c39
                              by_cases c42 : (wrap64 (a1 + 1)) ≥ (l0.length : Int)
                              · rw [if_pos c42] at H
                                have c42b0 : decide ((l0.length : Int) ≤ (wrap64 (a1 + 1))) = true := decide_eq_true c42
                                clear c42
                                simp only [Option.some.injEq, Prod.mk.injEq] at H
                                obtain ⟨rfl, rfl⟩ := H
                                have hnb43 := NB147_154.out
                                have hnc43 := NB154_147.out
                                have hcz44_0 : wc.cell? ⟨gb147, 0, none⟩ = some (.int .u8 ((rd_T24 l0 a1).f0)) := (blk_cell BK147.out 0).trans rfl
                                have hcz44_1 : wc.cell? ⟨gb147, 1, none⟩ = some (.int .u8 ((rd_T24 l0 a1).f1)) := (blk_cell BK147.out 1).trans rfl
                                have hcz44_2 : wc.cell? ⟨gb147, 2, none⟩ = some (.int .u8 ((rd_T24 l0 a1).f2)) := (blk_cell BK147.out 2).trans rfl
                                have hcz44_3 : wc.cell? ⟨gb147, 3, none⟩ = some (.int .i16 ((rd_T24 l0 a1).f3)) := (blk_cell BK147.out 3).trans rfl
                                have hcz44_4 : wc.cell? ⟨gb147, 4, none⟩ = some (.int .i32 ((rd_T24 l0 a1).f4)) := (blk_cell BK147.out 4).trans rfl
                                have hfz44_0 := blk_frozen BK147.out 0
                                have hfz44_1 := blk_frozen BK147.out 1
                                have hfz44_2 := blk_frozen BK147.out 2
                                have hfz44_3 := blk_frozen BK147.out 3
                                have hfz44_4 := blk_frozen BK147.out 4
                                go_wp2_with (first | (go_at_call 24; (with_reducible refine (insn_Wide.calls ((rd_T24 l0 a1).f0) true _ A37.out).mono ?_); rintro e w' ⟨rfl, ⟨nd, rfl⟩⟩; (try first | exact ⟨rfl, _, World.drewN_drewN _ _ _⟩ | exact ⟨rfl, _, Eq.trans (World.drewN_drewN _ _ _) (congrArg (World.drewN _) (Nat.add_assoc _ _ _))⟩)))
                                repeat (go_quiet (first | (go_at_call 24; (with_reducible refine (insn_Wide.calls ((rd_T24 l0 a1).f0) true _ A37.out).mono ?_); rintro e w' ⟨rfl, ⟨nd, rfl⟩⟩; (try first | exact ⟨rfl, _, World.drewN_drewN _ _ _⟩ | exact ⟨rfl, _, Eq.trans (World.drewN_drewN _ _ _) (congrArg (World.drewN _) (Nat.add_assoc _ _ _))⟩))); try go_wp2_with (first | (go_at_call 24; (with_reducible refine (insn_Wide.calls ((rd_T24 l0 a1).f0) true _ A37.out).mono ?_); rintro e w' ⟨rfl, ⟨nd, rfl⟩⟩; (try first | exact ⟨rfl, _, World.drewN_drewN _ _ _⟩ | exact ⟨rfl, _, Eq.trans (World.drewN_drewN _ _ _) (congrArg (World.drewN _) (Nat.add_assoc _ _ _))⟩))))
                                go_ret2
                                exact ⟨by first | rfl | (simp [errW_none, errW_some] <;> rfl) | (simp [*, errW_none, errW_some] <;> rfl), by repeat (first | (with_reducible first | exact HB.out | apply below_alloc | apply pw_below_drewN | apply below_drew1 | refine below_set ?_ GE147.out | refine below_set ?_ GE154.out) | exact HB.out)⟩
                              · rw [if_neg c42] at H
                                have c42b0 : decide ((l0.length : Int) ≤ (wrap64 (a1 + 1))) = false := decide_eq_false c42
                                clear c42
                                obtain ⟨ji45, hji45⟩ : ∃ j_ : Int, (wrap64 (a1 + 1)) = j_ := ⟨_, rfl⟩
                                replace H : (if 0 ≤ (ji45) then (if (ji45) < (l0.length : Int) then (if (!(((rd_T24 l0 (ji45)).f0) == 0) || (!(((rd_T24 l0 (ji45)).f1) == 0) || (!(((rd_T24 l0 (ji45)).f2) == 0) || (!(((rd_T24 l0 (ji45)).f3) == 0))))) = true then (some (0, 42)) else (some (2, 0))) else (none)) else (none)) = some (r1, r2) := by first | (rw [hji45] at H; exact H) | (simp only [hji45] at H ⊢; exact H)
                                (try rw [hji45] at c42b0)
                                (try rw [hji45] at A37)
                                have hji45w : (IntKind.i64.wrap (a1 + 1)) = ji45 := (i64_w _).trans hji45
                                by_cases c46 : 0 ≤ (ji45)
                                · rw [if_pos c46] at H
                                  have c46b0 : decide (0 ≤ (ji45)) = true := decide_eq_true c46
                                  clear c46
                                  by_cases c47 : (ji45) < (l0.length : Int)
                                  · rw [if_pos c47] at H
                                    have c47b0 : decide ((ji45) < (l0.length : Int)) = true := decide_eq_true c47
                                    clear c47
                                    by_cases c48 : (!(((rd_T24 l0 (ji45)).f0) == 0) || (!(((rd_T24 l0 (ji45)).f1) == 0) || (!(((rd_T24 l0 (ji45)).f2) == 0) || (!(((rd_T24 l0 (ji45)).f3) == 0))))) = true
                                    · rw [if_pos c48] at H
                                      have c48b0 : (!(((rd_T24 l0 (ji45)).f0) == 0) || (!(((rd_T24 l0 (ji45)).f1) == 0) || (!(((rd_T24 l0 (ji45)).f2) == 0) || (!(((rd_T24 l0 (ji45)).f3) == 0))))) = true := c48
                                      clear c48
                                      simp only [Option.some.injEq, Prod.mk.injEq] at H
                                      obtain ⟨rfl, rfl⟩ := H
                                      have hnb49 := NB147_154.out
                                      have hnc49 := NB154_147.out
                                      have hcz50_0 : wc.cell? ⟨gb147, 0, none⟩ = some (.int .u8 ((rd_T24 l0 a1).f0)) := (blk_cell BK147.out 0).trans rfl
                                      have hcz50_1 : wc.cell? ⟨gb147, 1, none⟩ = some (.int .u8 ((rd_T24 l0 a1).f1)) := (blk_cell BK147.out 1).trans rfl
                                      have hcz50_2 : wc.cell? ⟨gb147, 2, none⟩ = some (.int .u8 ((rd_T24 l0 a1).f2)) := (blk_cell BK147.out 2).trans rfl
                                      have hcz50_3 : wc.cell? ⟨gb147, 3, none⟩ = some (.int .i16 ((rd_T24 l0 a1).f3)) := (blk_cell BK147.out 3).trans rfl
                                      have hcz50_4 : wc.cell? ⟨gb147, 4, none⟩ = some (.int .i32 ((rd_T24 l0 a1).f4)) := (blk_cell BK147.out 4).trans rfl
                                      have hfz50_0 := blk_frozen BK147.out 0
                                      have hfz50_1 := blk_frozen BK147.out 1
                                      have hfz50_2 := blk_frozen BK147.out 2
                                      have hfz50_3 := blk_frozen BK147.out 3
                                      have hfz50_4 := blk_frozen BK147.out 4
                                      go_wp2_with (first | (go_at_call 24; (with_reducible refine (insn_Wide.calls ((rd_T24 l0 a1).f0) true _ A37.out).mono ?_); rintro e w' ⟨rfl, ⟨nd, rfl⟩⟩; (try first | exact ⟨rfl, _, World.drewN_drewN _ _ _⟩ | exact ⟨rfl, _, Eq.trans (World.drewN_drewN _ _ _) (congrArg (World.drewN _) (Nat.add_assoc _ _ _))⟩); have p156 : 0 ≤ ((ji45) : Int) := of_decide_eq_true (by first | (with_reducible assumption) | assumption); have q156 : (ji45) < (l0.length : Int) := of_decide_eq_true (by first | (with_reducible assumption) | assumption); obtain ⟨ad156, e156, hx156_0, hx156_1, hx156_2, hx156_3, hx156_4⟩ := at_T24 HR0.out (ji45) p156 q156; obtain rfl : ad146 = ad156 := (by injection e156); replace hx156_0 := (HB.out.cell (World.block_lt_of_cell? w _ hx156_0)).trans hx156_0; replace hx156_1 := (HB.out.cell (World.block_lt_of_cell? w _ hx156_1)).trans hx156_1; replace hx156_2 := (HB.out.cell (World.block_lt_of_cell? w _ hx156_2)).trans hx156_2; replace hx156_3 := (HB.out.cell (World.block_lt_of_cell? w _ hx156_3)).trans hx156_3; replace hx156_4 := (HB.out.cell (World.block_lt_of_cell? w _ hx156_4)).trans hx156_4; replace p156 := eq_true p156; replace q156 := eq_true q156; have p157 : 0 ≤ ((ji45) : Int) := of_decide_eq_true (by first | (with_reducible assumption) | assumption); have q157 : (ji45) < (l0.length : Int) := of_decide_eq_true (by first | (with_reducible assumption) | assumption); obtain ⟨ad157, e157, hx157_0, hx157_1, hx157_2, hx157_3, hx157_4⟩ := at_T24 HR0.out (ji45) p157 q157; obtain rfl : ad146 = ad157 := (by injection e157); replace hx157_0 := (HB.out.cell (World.block_lt_of_cell? w _ hx157_0)).trans hx157_0; replace hx157_1 := (HB.out.cell (World.block_lt_of_cell? w _ hx157_1)).trans hx157_1; replace hx157_2 := (HB.out.cell (World.block_lt_of_cell? w _ hx157_2)).trans hx157_2; replace hx157_3 := (HB.out.cell (World.block_lt_of_cell? w _ hx157_3)).trans hx157_3; replace hx157_4 := (HB.out.cell (World.block_lt_of_cell? w _ hx157_4)).trans hx157_4; replace p157 := eq_true p157; replace q157 := eq_true q157))
                                      repeat (go_quiet (first | (go_at_call 24; (with_reducible refine (insn_Wide.calls ((rd_T24 l0 a1).f0) true _ A37.out).mono ?_); rintro e w' ⟨rfl, ⟨nd, rfl⟩⟩; (try first | exact ⟨rfl, _, World.drewN_drewN _ _ _⟩ | exact ⟨rfl, _, Eq.trans (World.drewN_drewN _ _ _) (congrArg (World.drewN _) (Nat.add_assoc _ _ _))⟩); have p156 : 0 ≤ ((ji45) : Int) := of_decide_eq_true (by first | (with_reducible assumption) | assumption); have q156 : (ji45) < (l0.length : Int) := of_decide_eq_true (by first | (with_reducible assumption) | assumption); obtain ⟨ad156, e156, hx156_0, hx156_1, hx156_2, hx156_3, hx156_4⟩ := at_T24 HR0.out (ji45) p156 q156; obtain rfl : ad146 = ad156 := (by injection e156); replace hx156_0 := (HB.out.cell (World.block_lt_of_cell? w _ hx156_0)).trans hx156_0; replace hx156_1 := (HB.out.cell (World.block_lt_of_cell? w _ hx156_1)).trans hx156_1; replace hx156_2 := (HB.out.cell (World.block_lt_of_cell? w _ hx156_2)).trans hx156_2; replace hx156_3 := (HB.out.cell (World.block_lt_of_cell? w _ hx156_3)).trans hx156_3; replace hx156_4 := (HB.out.cell (World.block_lt_of_cell? w _ hx156_4)).trans hx156_4; replace p156 := eq_true p156; replace q156 := eq_true q156; have p157 : 0 ≤ ((ji45) : Int) := of_decide_eq_true (by first | (with_reducible assumption) | assumption); have q157 : (ji45) < (l0.length : Int) := of_decide_eq_true (by first | (with_reducible assumption) | assumption); obtain ⟨ad157, e157, hx157_0, hx157_1, hx157_2, hx157_3, hx157_4⟩ := at_T24 HR0.out (ji45) p157 q157; obtain rfl : ad146 = ad157 := (by injection e157); replace hx157_0 := (HB.out.cell (World.block_lt_of_cell? w _ hx157_0)).trans hx157_0; replace hx157_1 := (HB.out.cell (World.block_lt_of_cell? w _ hx157_1)).trans hx157_1; replace hx157_2 := (HB.out.cell (World.block_lt_of_cell? w _ hx157_2)).trans hx157_2; replace hx157_3 := (HB.out.cell (World.block_lt_of_cell? w _ hx157_3)).trans hx157_3; replace hx157_4 := (HB.out.cell (World.block_lt_of_cell? w _ hx157_4)).trans hx157_4; replace p157 := eq_true p157; replace q157 := eq_true q157)); try go_wp2_with (first | (go_at_call 24; (with_reducible refine (insn_Wide.calls ((rd_T24 l0 a1).f0) true _ A37.out).mono ?_); rintro e w' ⟨rfl, ⟨nd, rfl⟩⟩; (try first | exact ⟨rfl, _, World.drewN_drewN _ _ _⟩ | exact ⟨rfl, _, Eq.trans (World.drewN_drewN _ _ _) (congrArg (World.drewN _) (Nat.add_assoc _ _ _))⟩); have p156 : 0 ≤ ((ji45) : Int) := of_decide_eq_true (by first | (with_reducible assumption) | assumption); have q156 : (ji45) < (l0.length : Int) := of_decide_eq_true (by first | (with_reducible assumption) | assumption); obtain ⟨ad156, e156, hx156_0, hx156_1, hx156_2, hx156_3, hx156_4⟩ := at_T24 HR0.out (ji45) p156 q156; obtain rfl : ad146 = ad156 := (by injection e156); replace hx156_0 := (HB.out.cell (World.block_lt_of_cell? w _ hx156_0)).trans hx156_0; replace hx156_1 := (HB.out.cell (World.block_lt_of_cell? w _ hx156_1)).trans hx156_1; replace hx156_2 := (HB.out.cell (World.block_lt_of_cell? w _ hx156_2)).trans hx156_2; replace hx156_3 := (HB.out.cell (World.block_lt_of_cell? w _ hx156_3)).trans hx156_3; replace hx156_4 := (HB.out.cell (World.block_lt_of_cell? w _ hx156_4)).trans hx156_4; replace p156 := eq_true p156; replace q156 := eq_true q156; have p157 : 0 ≤ ((ji45) : Int) := of_decide_eq_true (by first | (with_reducible assumption) | assumption); have q157 : (ji45) < (l0.length : Int) := of_decide_eq_true (by first | (with_reducible assumption) | assumption); obtain ⟨ad157, e157, hx157_0, hx157_1, hx157_2, hx157_3, hx157_4⟩ := at_T24 HR0.out (ji45) p157 q157; obtain rfl : ad146 = ad157 := (by injection e157); replace hx157_0 := (HB.out.cell (World.block_lt_of_cell? w _ hx157_0)).trans hx157_0; replace hx157_1 := (HB.out.cell (World.block_lt_of_cell? w _ hx157_1)).trans hx157_1; replace hx157_2 := (HB.out.cell (World.block_lt_of_cell? w _ hx157_2)).trans hx157_2; replace hx157_3 := (HB.out.cell (World.block_lt_of_cell? w _ hx157_3)).trans hx157_3; replace hx157_4 := (HB.out.cell (World.block_lt_of_cell? w _ hx157_4)).trans hx157_4; replace p157 := eq_true p157; replace q157 := eq_true q157)))
                                      go_ret2
                                      exact ⟨by first | rfl | (simp [errW_none, errW_some] <;> rfl) | (simp only [← hji45]; first | rfl | (simp [errW_none, errW_some] <;> rfl)) | (simp [*, errW_none, errW_some] <;> rfl), by repeat (first | (with_reducible first | exact HB.out | apply below_alloc | apply pw_below_drewN | apply below_drew1 | refine below_set ?_ GE147.out | refine below_set ?_ GE154.out) | exact HB.out)⟩
                                    · rw [if_neg c48] at H
                                      have c48b0 : (!(((rd_T24 l0 (ji45)).f0) == 0) || (!(((rd_T24 l0 (ji45)).f1) == 0) || (!(((rd_T24 l0 (ji45)).f2) == 0) || (!(((rd_T24 l0 (ji45)).f3) == 0))))) = false := by simpa using c48
                                      clear c48
                                      simp only [Option.some.injEq, Prod.mk.injEq] at H
                                      obtain ⟨rfl, rfl⟩ := H
                                      have hnb51 := NB147_154.out
                                      have hnc51 := NB154_147.out
                                      have hcz52_0 : wc.cell? ⟨gb147, 0, none⟩ = some (.int .u8 ((rd_T24 l0 a1).f0)) := (blk_cell BK147.out 0).trans rfl
                                      have hcz52_1 : wc.cell? ⟨gb147, 1, none⟩ = some (.int .u8 ((rd_T24 l0 a1).f1)) := (blk_cell BK147.out 1).trans rfl
                                      have hcz52_2 : wc.cell? ⟨gb147, 2, none⟩ = some (.int .u8 ((rd_T24 l0 a1).f2)) := (blk_cell BK147.out 2).trans rfl
                                      have hcz52_3 : wc.cell? ⟨gb147, 3, none⟩ = some (.int .i16 ((rd_T24 l0 a1).f3)) := (blk_cell BK147.out 3).trans rfl
                                      have hcz52_4 : wc.cell? ⟨gb147, 4, none⟩ = some (.int .i32 ((rd_T24 l0 a1).f4)) := (blk_cell BK147.out 4).trans rfl
                                      have hfz52_0 := blk_frozen BK147.out 0
                                      have hfz52_1 := blk_frozen BK147.out 1
                                      have hfz52_2 := blk_frozen BK147.out 2
                                      have hfz52_3 := blk_frozen BK147.out 3
                                      have hfz52_4 := blk_frozen BK147.out 4
                                      go_wp2_with (first | (go_at_call 24; (with_reducible refine (insn_Wide.calls ((rd_T24 l0 a1).f0) true _ A37.out).mono ?_); rintro e w' ⟨rfl, ⟨nd, rfl⟩⟩; (try first | exact ⟨rfl, _, World.drewN_drewN _ _ _⟩ | exact ⟨rfl, _, Eq.trans (World.drewN_drewN _ _ _) (congrArg (World.drewN _) (Nat.add_assoc _ _ _))⟩); have p156 : 0 ≤ ((ji45) : Int) := of_decide_eq_true (by first | (with_reducible assumption) | assumption); have q156 : (ji45) < (l0.length : Int) := of_decide_eq_true (by first | (with_reducible assumption) | assumption); obtain ⟨ad156, e156, hx156_0, hx156_1, hx156_2, hx156_3, hx156_4⟩ := at_T24 HR0.out (ji45) p156 q156; obtain rfl : ad146 = ad156 := (by injection e156); replace hx156_0 := (HB.out.cell (World.block_lt_of_cell? w _ hx156_0)).trans hx156_0; replace hx156_1 := (HB.out.cell (World.block_lt_of_cell? w _ hx156_1)).trans hx156_1; replace hx156_2 := (HB.out.cell (World.block_lt_of_cell? w _ hx156_2)).trans hx156_2; replace hx156_3 := (HB.out.cell (World.block_lt_of_cell? w _ hx156_3)).trans hx156_3; replace hx156_4 := (HB.out.cell (World.block_lt_of_cell? w _ hx156_4)).trans hx156_4; replace p156 := eq_true p156; replace q156 := eq_true q156; have p157 : 0 ≤ ((ji45) : Int) := of_decide_eq_true (by first | (with_reducible assumption) | assumption); have q157 : (ji45) < (l0.length : Int) := of_decide_eq_true (by first | (with_reducible assumption) | assumption); obtain ⟨ad157, e157, hx157_0, hx157_1, hx157_2, hx157_3, hx157_4⟩ := at_T24 HR0.out (ji45) p157 q157; obtain rfl : ad146 = ad157 := (by injection e157); replace hx157_0 := (HB.out.cell (World.block_lt_of_cell? w _ hx157_0)).trans hx157_0; replace hx157_1 := (HB.out.cell (World.block_lt_of_cell? w _ hx157_1)).trans hx157_1; replace hx157_2 := (HB.out.cell (World.block_lt_of_cell? w _ hx157_2)).trans hx157_2; replace hx157_3 := (HB.out.cell (World.block_lt_of_cell? w _ hx157_3)).trans hx157_3; replace hx157_4 := (HB.out.cell (World.block_lt_of_cell? w _ hx157_4)).trans hx157_4; replace p157 := eq_true p157; replace q157 := eq_true q157))
                                      repeat (go_quiet (first | (go_at_call 24; (with_reducible refine (insn_Wide.calls ((rd_T24 l0 a1).f0) true _ A37.out).mono ?_); rintro e w' ⟨rfl, ⟨nd, rfl⟩⟩; (try first | exact ⟨rfl, _, World.drewN_drewN _ _ _⟩ | exact ⟨rfl, _, Eq.trans (World.drewN_drewN _ _ _) (congrArg (World.drewN _) (Nat.add_assoc _ _ _))⟩); have p156 : 0 ≤ ((ji45) : Int) := of_decide_eq_true (by first | (with_reducible assumption) | assumption); have q156 : (ji45) < (l0.length : Int) := of_decide_eq_true (by first | (with_reducible assumption) | assumption); obtain ⟨ad156, e156, hx156_0, hx156_1, hx156_2, hx156_3, hx156_4⟩ := at_T24 HR0.out (ji45) p156 q156; obtain rfl : ad146 = ad156 := (by injection e156); replace hx156_0 := (HB.out.cell (World.block_lt_of_cell? w _ hx156_0)).trans hx156_0; replace hx156_1 := (HB.out.cell (World.block_lt_of_cell? w _ hx156_1)).trans hx156_1; replace hx156_2 := (HB.out.cell (World.block_lt_of_cell? w _ hx156_2)).trans hx156_2; replace hx156_3 := (HB.out.cell (World.block_lt_of_cell? w _ hx156_3)).trans hx156_3; replace hx156_4 := (HB.out.cell (World.block_lt_of_cell? w _ hx156_4)).trans hx156_4; replace p156 := eq_true p156; replace q156 := eq_true q156; have p157 : 0 ≤ ((ji45) : Int) := of_decide_eq_true (by first | (with_reducible assumption) | assumption); have q157 : (ji45) < (l0.length : Int) := of_decide_eq_true (by first | (with_reducible assumption) | assumption); obtain ⟨ad157, e157, hx157_0, hx157_1, hx157_2, hx157_3, hx157_4⟩ := at_T24 HR0.out (ji45) p157 q157; obtain rfl : ad146 = ad157 := (by injection e157); replace hx157_0 := (HB.out.cell (World.block_lt_of_cell? w _ hx157_0)).trans hx157_0; replace hx157_1 := (HB.out.cell (World.block_lt_of_cell? w _ hx157_1)).trans hx157_1; replace hx157_2 := (HB.out.cell (World.block_lt_of_cell? w _ hx157_2)).trans hx157_2; replace hx157_3 := (HB.out.cell (World.block_lt_of_cell? w _ hx157_3)).trans hx157_3; replace hx157_4 := (HB.out.cell (World.block_lt_of_cell? w _ hx157_4)).trans hx157_4; replace p157 := eq_true p157; replace q157 := eq_true q157)); try go_wp2_with (first | (go_at_call 24; (with_reducible refine (insn_Wide.calls ((rd_T24 l0 a1).f0) true _ A37.out).mono ?_); rintro e w' ⟨rfl, ⟨nd, rfl⟩⟩; (try first | exact ⟨rfl, _, World.drewN_drewN _ _ _⟩ | exact ⟨rfl, _, Eq.trans (World.drewN_drewN _ _ _) (congrArg (World.drewN _) (Nat.add_assoc _ _ _))⟩); have p156 : 0 ≤ ((ji45) : Int) := of_decide_eq_true (by first | (with_reducible assumption) | assumption); have q156 : (ji45) < (l0.length : Int) := of_decide_eq_true (by first | (with_reducible assumption) | assumption); obtain ⟨ad156, e156, hx156_0, hx156_1, hx156_2, hx156_3, hx156_4⟩ := at_T24 HR0.out (ji45) p156 q156; obtain rfl : ad146 = ad156 := (by injection e156); replace hx156_0 := (HB.out.cell (World.block_lt_of_cell? w _ hx156_0)).trans hx156_0; replace hx156_1 := (HB.out.cell (World.block_lt_of_cell? w _ hx156_1)).trans hx156_1; replace hx156_2 := (HB.out.cell (World.block_lt_of_cell? w _ hx156_2)).trans hx156_2; replace hx156_3 := (HB.out.cell (World.block_lt_of_cell? w _ hx156_3)).trans hx156_3; replace hx156_4 := (HB.out.cell (World.block_lt_of_cell? w _ hx156_4)).trans hx156_4; replace p156 := eq_true p156; replace q156 := eq_true q156; have p157 : 0 ≤ ((ji45) : Int) := of_decide_eq_true (by first | (with_reducible assumption) | assumption); have q157 : (ji45) < (l0.length : Int) := of_decide_eq_true (by first | (with_reducible assumption) | assumption); obtain ⟨ad157, e157, hx157_0, hx157_1, hx157_2, hx157_3, hx157_4⟩ := at_T24 HR0.out (ji45) p157 q157; obtain rfl : ad146 = ad157 := (by injection e157); replace hx157_0 := (HB.out.cell (World.block_lt_of_cell? w _ hx157_0)).trans hx157_0; replace hx157_1 := (HB.out.cell (World.block_lt_of_cell? w _ hx157_1)).trans hx157_1; replace hx157_2 := (HB.out.cell (World.block_lt_of_cell? w _ hx157_2)).trans hx157_2; replace hx157_3 := (HB.out.cell (World.block_lt_of_cell? w _ hx157_3)).trans hx157_3; replace hx157_4 := (HB.out.cell (World.block_lt_of_cell? w _ hx157_4)).trans hx157_4; replace p157 := eq_true p157; replace q157 := eq_true q157)))
                                      go_ret2
                                      exact ⟨by first | rfl | (simp [errW_none, errW_some] <;> rfl) | (simp only [← hji45]; first | rfl | (simp [errW_none, errW_some] <;> rfl)) | (simp [*, errW_none, errW_some] <;> rfl), by repeat (first | (with_reducible first | exact HB.out | apply below_alloc | apply pw_below_drewN | apply below_drew1 | refine below_set ?_ GE147.out | refine below_set ?_ GE154.out) | exact HB.out)⟩
                                  · rw [if_neg c47] at H
                                    exact absurd H (by simp)
                                · rw [if_neg c46] at H
                                  exact absurd H (by simp)
                          · replace c38 := Bool.eq_false_iff.mpr c38
                            subst c38
                            have H1 : (some (1, 0)) = some (r1, r2) := by rw [if_neg (show ¬ (false = true) by decide)] at H; exact H
                            clear H
                            have H := H1
                            clear H1
                            simp only [Option.some.injEq, Prod.mk.injEq] at H
                            obtain ⟨rfl, rfl⟩ := H
                            have hnb53 := NB147_154.out
                            have hnc53 := NB154_147.out
                            have hcz54_0 : wc.cell? ⟨gb147, 0, none⟩ = some (.int .u8 ((rd_T24 l0 a1).f0)) := (blk_cell BK147.out 0).trans rfl
                            have hcz54_1 : wc.cell? ⟨gb147, 1, none⟩ = some (.int .u8 ((rd_T24 l0 a1).f1)) := (blk_cell BK147.out 1).trans rfl
                            have hcz54_2 : wc.cell? ⟨gb147, 2, none⟩ = some (.int .u8 ((rd_T24 l0 a1).f2)) := (blk_cell BK147.out 2).trans rfl
                            have hcz54_3 : wc.cell? ⟨gb147, 3, none⟩ = some (.int .i16 ((rd_T24 l0 a1).f3)) := (blk_cell BK147.out 3).trans rfl
                            have hcz54_4 : wc.cell? ⟨gb147, 4, none⟩ = some (.int .i32 ((rd_T24 l0 a1).f4)) := (blk_cell BK147.out 4).trans rfl
                            have hfz54_0 := blk_frozen BK147.out 0
                            have hfz54_1 := blk_frozen BK147.out 1
                            have hfz54_2 := blk_frozen BK147.out 2
                            have hfz54_3 := blk_frozen BK147.out 3
                            have hfz54_4 := blk_frozen BK147.out 4
                            go_wp2_with (first | (go_at_call 24; (with_reducible refine (insn_Wide.calls ((rd_T24 l0 a1).f0) false _ A37.out).mono ?_); rintro e w' ⟨rfl, ⟨nd, rfl⟩⟩; (try first | exact ⟨rfl, _, World.drewN_drewN _ _ _⟩ | exact ⟨rfl, _, Eq.trans (World.drewN_drewN _ _ _) (congrArg (World.drewN _) (Nat.add_assoc _ _ _))⟩)))
                            repeat (go_quiet (first | (go_at_call 24; (with_reducible refine (insn_Wide.calls ((rd_T24 l0 a1).f0) false _ A37.out).mono ?_); rintro e w' ⟨rfl, ⟨nd, rfl⟩⟩; (try first | exact ⟨rfl, _, World.drewN_drewN _ _ _⟩ | exact ⟨rfl, _, Eq.trans (World.drewN_drewN _ _ _) (congrArg (World.drewN _) (Nat.add_assoc _ _ _))⟩))); try go_wp2_with (first | (go_at_call 24; (with_reducible refine (insn_Wide.calls ((rd_T24 l0 a1).f0) false _ A37.out).mono ?_); rintro e w' ⟨rfl, ⟨nd, rfl⟩⟩; (try first | exact ⟨rfl, _, World.drewN_drewN _ _ _⟩ | exact ⟨rfl, _, Eq.trans (World.drewN_drewN _ _ _) (congrArg (World.drewN _) (Nat.add_assoc _ _ _))⟩))))
                            go_ret2
                            exact ⟨by first | rfl | (simp [errW_none, errW_some] <;> rfl) | (simp [*, errW_none, errW_some] <;> rfl), by repeat (first | (with_reducible first | exact HB.out | apply below_alloc | apply pw_below_drewN | apply below_drew1 | refine below_set ?_ GE147.out | refine below_set ?_ GE154.out) | exact HB.out)⟩
            · replace c9 := Bool.eq_false_iff.mpr c9
              subst c9
              have H1 : (some (0, 41)) = some (r1, r2) := by rw [if_neg (show ¬ (false = true) by decide)] at H; exact H
              clear H
              have H := H1
              clear H1
              simp only [Option.some.injEq, Prod.mk.injEq] at H
              obtain ⟨rfl, rfl⟩ := H
              have p146 : 0 ≤ (a1 : Int) := of_decide_eq_true (by first | (with_reducible assumption) | assumption)
              have q146 : a1 < (l0.length : Int) := of_decide_eq_true (by first | (with_reducible assumption) | assumption)
              obtain ⟨ad146, e146, hx146_0, hx146_1, hx146_2, hx146_3, hx146_4⟩ := at_T24 HR0.out a1 p146 q146
              cases e146
              replace hx146_0 := (HB.out.cell (World.block_lt_of_cell? w _ hx146_0)).trans hx146_0
              replace hx146_1 := (HB.out.cell (World.block_lt_of_cell? w _ hx146_1)).trans hx146_1
              replace hx146_2 := (HB.out.cell (World.block_lt_of_cell? w _ hx146_2)).trans hx146_2
              replace hx146_3 := (HB.out.cell (World.block_lt_of_cell? w _ hx146_3)).trans hx146_3
              replace hx146_4 := (HB.out.cell (World.block_lt_of_cell? w _ hx146_4)).trans hx146_4
              replace p146 := eq_true p146
              replace q146 := eq_true q146
              go_wp2_with (first | ((with_reducible refine gate_dst (N := 6) rfl ?_); (try (refine gate_guard (by rfl) ?_; dsimp only)); refine box_event ?hg (N := 6) ?hd (cs := #[.int .u8 0, .int .u8 0, .int .u8 0, .int .i16 0, .int .i32 0]) (t := 24) ?hr ?_; (case hd => rfl); (case hg => rfl); (case hr => first | (go_simp; done) | (go_simp; rfl)); intro gb147 hg w55 hbox hb; have n0_ := Aside0.mk (below_step (by repeat (first | (with_reducible first | exact HB.out | apply below_alloc | apply pw_below_drewN | apply below_drew1) | exact HB.out)) hb); have n1_ := Aside0.mk (hbox); have n2_ := Aside0.mk ((by rw [hg]; exact (below_size (by repeat (first | (with_reducible first | exact HB.out | apply below_alloc | apply pw_below_drewN | apply below_drew1) | exact HB.out))) : w.heap.size ≤ gb147)); have n3_ := Aside0.mk ((by rw [hg]; exact (below_size (by repeat (first | (with_reducible first | exact HB.out | apply below_alloc | apply pw_below_drewN | apply below_drew1) | exact HB.out))) : w.heap.size ≤ gb147)); clear HB; have HB := n0_; have BK147 := n1_; have GW147 := n2_; have GE147 := n3_; clear n0_ n1_ n2_ n3_; clear hb hbox hg; have hcz56_0 : w55.cell? ⟨gb147, 0, none⟩ = some (.int .u8 0) := (blk_cell BK147.out 0).trans rfl; have hcz56_1 : w55.cell? ⟨gb147, 1, none⟩ = some (.int .u8 0) := (blk_cell BK147.out 1).trans rfl; have hcz56_2 : w55.cell? ⟨gb147, 2, none⟩ = some (.int .u8 0) := (blk_cell BK147.out 2).trans rfl; have hcz56_3 : w55.cell? ⟨gb147, 3, none⟩ = some (.int .i16 0) := (blk_cell BK147.out 3).trans rfl; have hcz56_4 : w55.cell? ⟨gb147, 4, none⟩ = some (.int .i32 0) := (blk_cell BK147.out 4).trans rfl; have hfz56_0 := blk_frozen BK147.out 0; have hfz56_1 := blk_frozen BK147.out 1; have hfz56_2 := blk_frozen BK147.out 2; have hfz56_3 := blk_frozen BK147.out 3; have hfz56_4 := blk_frozen BK147.out 4) | (go_at_call 17; (with_reducible refine (insn_Known.calls kj2 ((rd_T24 l0 a1).f0) false _ A8.out).mono ?_); rintro e w' ⟨rfl, ⟨nd, rfl⟩⟩; (try first | exact ⟨rfl, _, World.drewN_drewN _ _ _⟩ | exact ⟨rfl, _, Eq.trans (World.drewN_drewN _ _ _) (congrArg (World.drewN _) (Nat.add_assoc _ _ _))⟩)))
              repeat (go_quiet (first | ((with_reducible refine gate_dst (N := 6) rfl ?_); (try (refine gate_guard (by rfl) ?_; dsimp only)); refine box_event ?hg (N := 6) ?hd (cs := #[.int .u8 0, .int .u8 0, .int .u8 0, .int .i16 0, .int .i32 0]) (t := 24) ?hr ?_; (case hd => rfl); (case hg => rfl); (case hr => first | (go_simp; done) | (go_simp; rfl)); intro gb147 hg w55 hbox hb; have n0_ := Aside0.mk (below_step (by repeat (first | (with_reducible first | exact HB.out | apply below_alloc | apply pw_below_drewN | apply below_drew1) | exact HB.out)) hb); have n1_ := Aside0.mk (hbox); have n2_ := Aside0.mk ((by rw [hg]; exact (below_size (by repeat (first | (with_reducible first | exact HB.out | apply below_alloc | apply pw_below_drewN | apply below_drew1) | exact HB.out))) : w.heap.size ≤ gb147)); have n3_ := Aside0.mk ((by rw [hg]; exact (below_size (by repeat (first | (with_reducible first | exact HB.out | apply below_alloc | apply pw_below_drewN | apply below_drew1) | exact HB.out))) : w.heap.size ≤ gb147)); clear HB; have HB := n0_; have BK147 := n1_; have GW147 := n2_; have GE147 := n3_; clear n0_ n1_ n2_ n3_; clear hb hbox hg; have hcz56_0 : w55.cell? ⟨gb147, 0, none⟩ = some (.int .u8 0) := (blk_cell BK147.out 0).trans rfl; have hcz56_1 : w55.cell? ⟨gb147, 1, none⟩ = some (.int .u8 0) := (blk_cell BK147.out 1).trans rfl; have hcz56_2 : w55.cell? ⟨gb147, 2, none⟩ = some (.int .u8 0) := (blk_cell BK147.out 2).trans rfl; have hcz56_3 : w55.cell? ⟨gb147, 3, none⟩ = some (.int .i16 0) := (blk_cell BK147.out 3).trans rfl; have hcz56_4 : w55.cell? ⟨gb147, 4, none⟩ = some (.int .i32 0) := (blk_cell BK147.out 4).trans rfl; have hfz56_0 := blk_frozen BK147.out 0; have hfz56_1 := blk_frozen BK147.out 1; have hfz56_2 := blk_frozen BK147.out 2; have hfz56_3 := blk_frozen BK147.out 3; have hfz56_4 := blk_frozen BK147.out 4) | (go_at_call 17; (with_reducible refine (insn_Known.calls kj2 ((rd_T24 l0 a1).f0) false _ A8.out).mono ?_); rintro e w' ⟨rfl, ⟨nd, rfl⟩⟩; (try first | exact ⟨rfl, _, World.drewN_drewN _ _ _⟩ | exact ⟨rfl, _, Eq.trans (World.drewN_drewN _ _ _) (congrArg (World.drewN _) (Nat.add_assoc _ _ _))⟩))); try go_wp2_with (first | ((with_reducible refine gate_dst (N := 6) rfl ?_); (try (refine gate_guard (by rfl) ?_; dsimp only)); refine box_event ?hg (N := 6) ?hd (cs := #[.int .u8 0, .int .u8 0, .int .u8 0, .int .i16 0, .int .i32 0]) (t := 24) ?hr ?_; (case hd => rfl); (case hg => rfl); (case hr => first | (go_simp; done) | (go_simp; rfl)); intro gb147 hg w55 hbox hb; have n0_ := Aside0.mk (below_step (by repeat (first | (with_reducible first | exact HB.out | apply below_alloc | apply pw_below_drewN | apply below_drew1) | exact HB.out)) hb); have n1_ := Aside0.mk (hbox); have n2_ := Aside0.mk ((by rw [hg]; exact (below_size (by repeat (first | (with_reducible first | exact HB.out | apply below_alloc | apply pw_below_drewN | apply below_drew1) | exact HB.out))) : w.heap.size ≤ gb147)); have n3_ := Aside0.mk ((by rw [hg]; exact (below_size (by repeat (first | (with_reducible first | exact HB.out | apply below_alloc | apply pw_below_drewN | apply below_drew1) | exact HB.out))) : w.heap.size ≤ gb147)); clear HB; have HB := n0_; have BK147 := n1_; have GW147 := n2_; have GE147 := n3_; clear n0_ n1_ n2_ n3_; clear hb hbox hg; have hcz56_0 : w55.cell? ⟨gb147, 0, none⟩ = some (.int .u8 0) := (blk_cell BK147.out 0).trans rfl; have hcz56_1 : w55.cell? ⟨gb147, 1, none⟩ = some (.int .u8 0) := (blk_cell BK147.out 1).trans rfl; have hcz56_2 : w55.cell? ⟨gb147, 2, none⟩ = some (.int .u8 0) := (blk_cell BK147.out 2).trans rfl; have hcz56_3 : w55.cell? ⟨gb147, 3, none⟩ = some (.int .i16 0) := (blk_cell BK147.out 3).trans rfl; have hcz56_4 : w55.cell? ⟨gb147, 4, none⟩ = some (.int .i32 0) := (blk_cell BK147.out 4).trans rfl; have hfz56_0 := blk_frozen BK147.out 0; have hfz56_1 := blk_frozen BK147.out 1; have hfz56_2 := blk_frozen BK147.out 2; have hfz56_3 := blk_frozen BK147.out 3; have hfz56_4 := blk_frozen BK147.out 4) | (go_at_call 17; (with_reducible refine (insn_Known.calls kj2 ((rd_T24 l0 a1).f0) false _ A8.out).mono ?_); rintro e w' ⟨rfl, ⟨nd, rfl⟩⟩; (try first | exact ⟨rfl, _, World.drewN_drewN _ _ _⟩ | exact ⟨rfl, _, Eq.trans (World.drewN_drewN _ _ _) (congrArg (World.drewN _) (Nat.add_assoc _ _ _))⟩))))
              go_ret2
              exact ⟨by first | rfl | (simp [errW_none, errW_some] <;> rfl) | (simp [*, errW_none, errW_some] <;> rfl), by repeat (first | (with_reducible first | exact HB.out | apply below_alloc | apply pw_below_drewN | apply below_drew1 | refine below_set ?_ GE147.out) | exact HB.out)⟩
          · rw [if_neg c7] at H
            exact absurd H (by simp)
        · rw [if_neg c6] at H
          exact absurd H (by simp)

end Go.Proofs.Ytiekhgllnpgjcaa.PInsnPlain
