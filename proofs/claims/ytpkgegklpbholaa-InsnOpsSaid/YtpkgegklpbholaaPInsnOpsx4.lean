-- Written by a program of this session (a variant of the print), for this claim. Lean checks it.
import Derived.Test.YtpkgegklpbholaaPInsnOpsx0
import Derived.Test.YtpkgegklpbholaaPInsnOpsx2
import Derived.Test.YtpkgegklpbholaaPInsnOpsx3
namespace Go.Proofs.Ytpkgegklpbholaa.PInsnOps
open Go.RowKit Go.Proofs.YtpkgegklpbholaaW.PrintWords Go.Proofs.YtpkgegklpbholaaW.PrintLast Go.Proofs.YtpkgegklpbholaaW.PrintMore
attribute [local go_sem] max2_int min2_int max_two min_two max_three min_three max_four min_four   -- for this text's walks alone
attribute [local go_sem high] Go.Proofs.Ytpkgegklpbholaa.NotLaw.not_u64 Go.Proofs.Ytpkgegklpbholaa.NotLaw.not_u32 Go.Proofs.Ytpkgegklpbholaa.NotLaw.not_u16 Go.Proofs.Ytpkgegklpbholaa.NotLaw.not_u8
set_option linter.unusedVariables false
set_option linter.unusedSimpArgs false

/-! ### posternref02_Known: function 18 -/
mutual
def posternref02_Known.j0 : Nat → Int → Int → Bool → Option (Bool)
  | 0, _, _, _ => none
  | k + 1, x0, x6, x11 => if x11 = true then (if (wrap64 (Int.tdiv x0 8)) = 12 then (some true) else (if (wrap64 (Int.tdiv x0 8)) = 13 then (some true) else (if (wrap64 (Int.tdiv x0 8)) = 14 then (some true) else (some ((wrap64 (Int.tdiv x0 8)) == 15))))) else (if x6 = 4 then (posternref02_Known.j1 k x0 (x6 == 4)) else (posternref02_Known.j1 k x0 (x6 == 7)))
def posternref02_Known.j1 : Nat → Int → Bool → Option (Bool)
  | 0, _, _ => none
  | k + 1, x0, x33 => if x33 = true then (if (wrap64 (Int.tdiv x0 16)) ≤ 12 then (if (wrap64 (Int.tdiv x0 16)) = 8 then (some ((Int.tmod (wrap64 (Int.tdiv x0 8)) 2) == 0)) else (some true)) else (some false)) else (if (wrap64 (Int.tdiv x0 16)) ≥ 1 then (if (wrap64 (Int.tdiv x0 16)) ≤ 7 then (some true) else (if (wrap64 (Int.tdiv x0 16)) ≥ 10 then (if (wrap64 (Int.tdiv x0 16)) ≤ 13 then (some true) else (if x0 = 5 then (some true) else (if x0 = 133 then (some true) else (some (x0 == 149))))) else (if x0 = 5 then (some true) else (if x0 = 133 then (some true) else (some (x0 == 149)))))) else (if (wrap64 (Int.tdiv x0 16)) ≥ 10 then (if (wrap64 (Int.tdiv x0 16)) ≤ 13 then (some true) else (if x0 = 5 then (some true) else (if x0 = 133 then (some true) else (some (x0 == 149))))) else (if x0 = 5 then (some true) else (if x0 = 133 then (some true) else (some (x0 == 149))))))
end
def posternref02_Known.f (k : Nat) (a0 : Int) : Option (Bool) := if (Int.tmod a0 8) = 0 then (some (a0 == 24)) else (if (Int.tmod a0 8) = 1 then (posternref02_Known.j0 k a0 (Int.tmod a0 8) ((Int.tmod a0 8) == 1)) else (if (Int.tmod a0 8) = 2 then (posternref02_Known.j0 k a0 (Int.tmod a0 8) ((Int.tmod a0 8) == 2)) else (posternref02_Known.j0 k a0 (Int.tmod a0 8) ((Int.tmod a0 8) == 3))))
theorem posternref02_Known.mono_l : ∀ k, (∀ y0 y1 y2, LeO (posternref02_Known.j0 k y0 y1 y2) (posternref02_Known.j0 (k + 1) y0 y1 y2)) ∧ (∀ y0 y1, LeO (posternref02_Known.j1 k y0 y1) (posternref02_Known.j1 (k + 1) y0 y1))
  | 0 => ⟨fun _ _ _ r h => by simp [posternref02_Known.j0] at h, fun _ _ r h => by simp [posternref02_Known.j1] at h⟩
  | k + 1 => by
    obtain ⟨ih0, ih1⟩ := posternref02_Known.mono_l k
    refine ⟨?_, ?_⟩
    · intro y0 y1 y2
      unfold posternref02_Known.j0
      repeat' first
      | (with_reducible exact ih0 _ _ _)
      | (with_reducible exact ih1 _ _)
      | (with_reducible exact LeO.refl _)
      | (with_reducible exact LeO.none _)
      | (with_reducible refine LeO.ite ?_ ?_)
      | (with_reducible refine LeO.bind ?_ (fun _ => ?_))
      | exact ih0 _ _ _
      | exact ih1 _ _
      | exact LeO.none _
      | refine LeO.ite ?_ ?_
      | refine LeO.bind ?_ (fun _ => ?_)
    · intro y0 y1
      unfold posternref02_Known.j1
      repeat' first
      | (with_reducible exact ih0 _ _ _)
      | (with_reducible exact ih1 _ _)
      | (with_reducible exact LeO.refl _)
      | (with_reducible exact LeO.none _)
      | (with_reducible refine LeO.ite ?_ ?_)
      | (with_reducible refine LeO.bind ?_ (fun _ => ?_))
      | exact ih0 _ _ _
      | exact ih1 _ _
      | exact LeO.none _
      | refine LeO.ite ?_ ?_
      | refine LeO.bind ?_ (fun _ => ?_)
theorem posternref02_Known.mono : ∀ a0 k, LeO (posternref02_Known.f k a0) (posternref02_Known.f (k + 1) a0) := by
  intro a0 k
  obtain ⟨ih0, ih1⟩ := posternref02_Known.mono_l k
  unfold posternref02_Known.f
  repeat' first
      | (with_reducible exact ih0 _ _ _)
      | (with_reducible exact ih1 _ _)
      | (with_reducible exact LeO.refl _)
      | (with_reducible exact LeO.none _)
      | (with_reducible refine LeO.ite ?_ ?_)
      | (with_reducible refine LeO.bind ?_ (fun _ => ?_))
      | exact ih0 _ _ _
      | exact ih1 _ _
      | exact LeO.none _
      | refine LeO.ite ?_ ?_
      | refine LeO.bind ?_ (fun _ => ?_)
set_option maxHeartbeats 8000000 in
set_option maxRecDepth 100000 in
theorem posternref02_Known.calls (k : Nat) (a0 : Int) (r : Bool) (w : World) (h : posternref02_Known.f k a0 = some r) :
    Calls Try.prog 18 #[.int .i64 a0] w fun e w' => e = .returned (.bool r) ∧ Drawn0 w w' := by
  have H : (if (Int.tmod a0 8) = 0 then (some (a0 == 24)) else (if (Int.tmod a0 8) = 1 then (posternref02_Known.j0 k a0 (Int.tmod a0 8) ((Int.tmod a0 8) == 1)) else (if (Int.tmod a0 8) = 2 then (posternref02_Known.j0 k a0 (Int.tmod a0 8) ((Int.tmod a0 8) == 2)) else (posternref02_Known.j0 k a0 (Int.tmod a0 8) ((Int.tmod a0 8) == 3))))) = some r := h
  clear h
  by_cases c2 : (Int.tmod a0 8) = 0
  · rw [if_pos c2] at H
    have c2b0 : ((Int.tmod a0 8) == 0) = true := beq_iff_eq.mpr c2
    have c2b1 : ((Int.tmod a0 8) != 0) = false := bne_eq_false_iff_eq.mpr c2
    clear c2
    obtain rfl := Option.some.inj H
    go_enter Try.func18, Try.ntmps18
    go_wp2
    go_ret
    exact ⟨by first | rfl | (simp; done) | (simp [*]; done), by repeat (first | exact Drawn0.refl _ | apply Drawn0.step)⟩
  · rw [if_neg c2] at H
    have c2b0 : ((Int.tmod a0 8) == 0) = false := beq_eq_false_iff_ne.mpr c2
    have c2b1 : ((Int.tmod a0 8) != 0) = true := bne_iff_ne.mpr c2
    have HC3 := Aside0.mk H
    clear H
    go_enter Try.func18, Try.ntmps18
    go_upto_if 11 with (fail)
    go_cut [11] (fun v11 wc => ∃ (kq : Nat) (x11_2 : Bool), v11 = .bool x11_2 ∧ Aside0 (posternref02_Known.j0 kq a0 (Int.tmod a0 8) x11_2 = some r) ∧ Aside0 (kq ≤ k) ∧ Drawn0 w wc)
    case first =>
      have H := HC3.out
      clear HC3
      by_cases c4 : (Int.tmod a0 8) = 1
      · rw [if_pos c4] at H
        have c4b0 : ((Int.tmod a0 8) == 1) = true := beq_iff_eq.mpr c4
        have c4b1 : ((Int.tmod a0 8) != 1) = false := bne_eq_false_iff_eq.mpr c4
        clear c4
        (first | rw [c4b0] | (simp only [i64_w, i32_w]; rw [c4b0]) | skip)
        have H' := Aside0.mk H
        clear H
        go_wp2
        go_meet
        case rel => exact ⟨_, (((Int.tmod a0 8) == 1)), (by first | rfl | (simp; done) | (simp [*]; done)), H', ⟨by first | omega | exact Nat.le_refl _⟩, by repeat (first | exact Drawn0.refl _ | apply Drawn0.step)⟩
      · rw [if_neg c4] at H
        have c4b0 : ((Int.tmod a0 8) == 1) = false := beq_eq_false_iff_ne.mpr c4
        have c4b1 : ((Int.tmod a0 8) != 1) = true := bne_iff_ne.mpr c4
        (first | rw [c4b0] | (simp only [i64_w, i32_w]; rw [c4b0]) | skip)
        by_cases c5 : (Int.tmod a0 8) = 2
        · rw [if_pos c5] at H
          have c5b0 : ((Int.tmod a0 8) == 2) = true := beq_iff_eq.mpr c5
          have c5b1 : ((Int.tmod a0 8) != 2) = false := bne_eq_false_iff_eq.mpr c5
          clear c5
          have H' := Aside0.mk H
          clear H
          go_wp2
          go_meet
          case rel => exact ⟨_, (((Int.tmod a0 8) == 2)), (by first | rfl | (simp; done) | (simp [*]; done)), H', ⟨by first | omega | exact Nat.le_refl _⟩, by repeat (first | exact Drawn0.refl _ | apply Drawn0.step)⟩
        · rw [if_neg c5] at H
          have c5b0 : ((Int.tmod a0 8) == 2) = false := beq_eq_false_iff_ne.mpr c5
          have c5b1 : ((Int.tmod a0 8) != 2) = true := bne_iff_ne.mpr c5
          have H' := Aside0.mk H
          clear H
          go_wp2
          go_meet
          case rel => exact ⟨_, (((Int.tmod a0 8) == 3)), (by first | rfl | (simp; done) | (simp [*]; done)), H', ⟨by first | omega | exact Nat.le_refl _⟩, by repeat (first | exact Drawn0.refl _ | apply Drawn0.step)⟩
    case rest =>
      clear HC3
      try clear c1
      try clear c2
      try clear c2b0
      try clear c2b1
      try clear p2
      try clear c4
      try clear c4b0
      try clear c4b1
      try clear c5
      try clear c5b0
      try clear c5b1
      obtain ⟨kq, x11_2, rfl, HA, HJ2, ⟨mc2, rfl⟩⟩ := hcut
      cases kq with
      | zero => exact absurd HA.out (by simp [posternref02_Known.j0])
      | succ kj2 =>
        have H := HA.out
        clear HA
        simp only [posternref02_Known.j0] at H
        by_cases c6 : x11_2 = true
        · subst c6
          have H1 : (if (wrap64 (Int.tdiv a0 8)) = 12 then (some true) else (if (wrap64 (Int.tdiv a0 8)) = 13 then (some true) else (if (wrap64 (Int.tdiv a0 8)) = 14 then (some true) else (some ((wrap64 (Int.tdiv a0 8)) == 15))))) = some r := by rw [if_pos rfl] at H; exact H
          clear H
          have H := H1
          clear H1
          by_cases c7 : (wrap64 (Int.tdiv a0 8)) = 12
          · rw [if_pos c7] at H
            have c7b0 : ((wrap64 (Int.tdiv a0 8)) == 12) = true := beq_iff_eq.mpr c7
            have c7b1 : ((wrap64 (Int.tdiv a0 8)) != 12) = false := bne_eq_false_iff_eq.mpr c7
            clear c7
            obtain rfl := Option.some.inj H
            go_wp2
            go_ret
            exact ⟨by first | rfl | (simp; done) | (simp [*]; done), by repeat (first | exact Drawn0.refl _ | apply Drawn0.step)⟩
          · rw [if_neg c7] at H
            have c7b0 : ((wrap64 (Int.tdiv a0 8)) == 12) = false := beq_eq_false_iff_ne.mpr c7
            have c7b1 : ((wrap64 (Int.tdiv a0 8)) != 12) = true := bne_iff_ne.mpr c7
            by_cases c8 : (wrap64 (Int.tdiv a0 8)) = 13
            · rw [if_pos c8] at H
              have c8b0 : ((wrap64 (Int.tdiv a0 8)) == 13) = true := beq_iff_eq.mpr c8
              have c8b1 : ((wrap64 (Int.tdiv a0 8)) != 13) = false := bne_eq_false_iff_eq.mpr c8
              clear c8
              obtain rfl := Option.some.inj H
              go_wp2
              go_ret
              exact ⟨by first | rfl | (simp; done) | (simp [*]; done), by repeat (first | exact Drawn0.refl _ | apply Drawn0.step)⟩
            · rw [if_neg c8] at H
              have c8b0 : ((wrap64 (Int.tdiv a0 8)) == 13) = false := beq_eq_false_iff_ne.mpr c8
              have c8b1 : ((wrap64 (Int.tdiv a0 8)) != 13) = true := bne_iff_ne.mpr c8
              by_cases c9 : (wrap64 (Int.tdiv a0 8)) = 14
              · rw [if_pos c9] at H
                have c9b0 : ((wrap64 (Int.tdiv a0 8)) == 14) = true := beq_iff_eq.mpr c9
                have c9b1 : ((wrap64 (Int.tdiv a0 8)) != 14) = false := bne_eq_false_iff_eq.mpr c9
                clear c9
                obtain rfl := Option.some.inj H
                go_wp2
                go_ret
                exact ⟨by first | rfl | (simp; done) | (simp [*]; done), by repeat (first | exact Drawn0.refl _ | apply Drawn0.step)⟩
              · rw [if_neg c9] at H
                have c9b0 : ((wrap64 (Int.tdiv a0 8)) == 14) = false := beq_eq_false_iff_ne.mpr c9
                have c9b1 : ((wrap64 (Int.tdiv a0 8)) != 14) = true := bne_iff_ne.mpr c9
                obtain rfl := Option.some.inj H
                go_wp2
                go_ret
                exact ⟨by first | rfl | (simp; done) | (simp [*]; done), by repeat (first | exact Drawn0.refl _ | apply Drawn0.step)⟩
        · replace c6 := Bool.eq_false_iff.mpr c6
          subst c6
          have H1 : (if (Int.tmod a0 8) = 4 then (posternref02_Known.j1 kj2 a0 ((Int.tmod a0 8) == 4)) else (posternref02_Known.j1 kj2 a0 ((Int.tmod a0 8) == 7))) = some r := by rw [if_neg (show ¬ (false = true) by decide)] at H; exact H
          clear H
          have H := H1
          clear H1
          have HC10 := Aside0.mk H
          clear H
          go_upto_if 33 with (fail)
          go_cut [33] (fun v33 wc => ∃ (kq : Nat) (x33_9 : Bool), v33 = .bool x33_9 ∧ Aside0 (posternref02_Known.j1 kq a0 x33_9 = some r) ∧ Aside0 (kq ≤ kj2) ∧ Drawn0 w wc)
          case first =>
            have H := HC10.out
            clear HC10
            by_cases c11 : (Int.tmod a0 8) = 4
            · rw [if_pos c11] at H
              have c11b0 : ((Int.tmod a0 8) == 4) = true := beq_iff_eq.mpr c11
              have c11b1 : ((Int.tmod a0 8) != 4) = false := bne_eq_false_iff_eq.mpr c11
              clear c11
              (first | rw [c11b0] | (simp only [i64_w, i32_w]; rw [c11b0]) | skip)
              have H' := Aside0.mk H
              clear H
              go_wp2
              go_meet
              case rel => exact ⟨_, (((Int.tmod a0 8) == 4)), (by first | rfl | (simp; done) | (simp [*]; done)), H', ⟨by have := HJ2.out; first | omega | exact Nat.le_refl _⟩, by repeat (first | exact Drawn0.refl _ | apply Drawn0.step)⟩
            · rw [if_neg c11] at H
              have c11b0 : ((Int.tmod a0 8) == 4) = false := beq_eq_false_iff_ne.mpr c11
              have c11b1 : ((Int.tmod a0 8) != 4) = true := bne_iff_ne.mpr c11
              (first | rw [c11b0] | (simp only [i64_w, i32_w]; rw [c11b0]) | skip)
              have H' := Aside0.mk H
              clear H
              go_wp2
              go_meet
              case rel => exact ⟨_, (((Int.tmod a0 8) == 7)), (by first | rfl | (simp; done) | (simp [*]; done)), H', ⟨by have := HJ2.out; first | omega | exact Nat.le_refl _⟩, by repeat (first | exact Drawn0.refl _ | apply Drawn0.step)⟩
          case rest =>
            clear HC10
            try clear c1
            try clear c2
            try clear c2b0
            try clear c2b1
            try clear p2
            try clear c4
            try clear c4b0
            try clear c4b1
            try clear c5
            try clear c5b0
            try clear c5b1
            try clear c6
            try clear p6
            try clear c7
            try clear c7b0
            try clear c7b1
            try clear c8
            try clear c8b0
            try clear c8b1
            try clear c9
            try clear c9b0
            try clear c9b1
            try clear c11
            try clear c11b0
            try clear c11b1
            try clear p2
            obtain ⟨kq, x33_9, rfl, HA, HJ9, ⟨mc9, rfl⟩⟩ := hcut
            cases kq with
            | zero => exact absurd HA.out (by simp [posternref02_Known.j1])
            | succ kj9 =>
              have H := HA.out
              clear HA
              simp only [posternref02_Known.j1] at H
              by_cases c12 : x33_9 = true
              · subst c12
                have H1 : (if (wrap64 (Int.tdiv a0 16)) ≤ 12 then (if (wrap64 (Int.tdiv a0 16)) = 8 then (some ((Int.tmod (wrap64 (Int.tdiv a0 8)) 2) == 0)) else (some true)) else (some false)) = some r := by rw [if_pos rfl] at H; exact H
                clear H
                have H := H1
                clear H1
                by_cases c13 : (wrap64 (Int.tdiv a0 16)) ≤ 12
                · rw [if_pos c13] at H
                  have c13b0 : decide ((wrap64 (Int.tdiv a0 16)) ≤ 12) = true := decide_eq_true c13
                  clear c13
                  by_cases c14 : (wrap64 (Int.tdiv a0 16)) = 8
                  · rw [if_pos c14] at H
                    have c14b0 : ((wrap64 (Int.tdiv a0 16)) == 8) = true := beq_iff_eq.mpr c14
                    have c14b1 : ((wrap64 (Int.tdiv a0 16)) != 8) = false := bne_eq_false_iff_eq.mpr c14
                    clear c14
                    obtain rfl := Option.some.inj H
                    go_wp2
                    go_ret
                    exact ⟨by first | rfl | (simp; done) | (simp [*]; done), by repeat (first | exact Drawn0.refl _ | apply Drawn0.step)⟩
                  · rw [if_neg c14] at H
                    have c14b0 : ((wrap64 (Int.tdiv a0 16)) == 8) = false := beq_eq_false_iff_ne.mpr c14
                    have c14b1 : ((wrap64 (Int.tdiv a0 16)) != 8) = true := bne_iff_ne.mpr c14
                    obtain rfl := Option.some.inj H
                    go_wp2
                    go_ret
                    exact ⟨by first | rfl | (simp; done) | (simp [*]; done), by repeat (first | exact Drawn0.refl _ | apply Drawn0.step)⟩
                · rw [if_neg c13] at H
                  have c13b0 : decide ((wrap64 (Int.tdiv a0 16)) ≤ 12) = false := decide_eq_false c13
                  clear c13
                  obtain rfl := Option.some.inj H
                  go_wp2
                  go_ret
                  exact ⟨by first | rfl | (simp; done) | (simp [*]; done), by repeat (first | exact Drawn0.refl _ | apply Drawn0.step)⟩
              · replace c12 := Bool.eq_false_iff.mpr c12
                subst c12
                have H1 : (if (wrap64 (Int.tdiv a0 16)) ≥ 1 then (if (wrap64 (Int.tdiv a0 16)) ≤ 7 then (some true) else (if (wrap64 (Int.tdiv a0 16)) ≥ 10 then (if (wrap64 (Int.tdiv a0 16)) ≤ 13 then (some true) else (if a0 = 5 then (some true) else (if a0 = 133 then (some true) else (some (a0 == 149))))) else (if a0 = 5 then (some true) else (if a0 = 133 then (some true) else (some (a0 == 149)))))) else (if (wrap64 (Int.tdiv a0 16)) ≥ 10 then (if (wrap64 (Int.tdiv a0 16)) ≤ 13 then (some true) else (if a0 = 5 then (some true) else (if a0 = 133 then (some true) else (some (a0 == 149))))) else (if a0 = 5 then (some true) else (if a0 = 133 then (some true) else (some (a0 == 149)))))) = some r := by rw [if_neg (show ¬ (false = true) by decide)] at H; exact H
                clear H
                have H := H1
                clear H1
                by_cases c15 : (wrap64 (Int.tdiv a0 16)) ≥ 1
                · rw [if_pos c15] at H
                  have c15b0 : decide (1 ≤ (wrap64 (Int.tdiv a0 16))) = true := decide_eq_true c15
                  clear c15
                  by_cases c16 : (wrap64 (Int.tdiv a0 16)) ≤ 7
                  · rw [if_pos c16] at H
                    have c16b0 : decide ((wrap64 (Int.tdiv a0 16)) ≤ 7) = true := decide_eq_true c16
                    clear c16
                    obtain rfl := Option.some.inj H
                    go_wp2
                    go_ret
                    exact ⟨by first | rfl | (simp; done) | (simp [*]; done), by repeat (first | exact Drawn0.refl _ | apply Drawn0.step)⟩
                  · rw [if_neg c16] at H
                    have c16b0 : decide ((wrap64 (Int.tdiv a0 16)) ≤ 7) = false := decide_eq_false c16
                    clear c16
                    by_cases c17 : (wrap64 (Int.tdiv a0 16)) ≥ 10
                    · rw [if_pos c17] at H
                      have c17b0 : decide (10 ≤ (wrap64 (Int.tdiv a0 16))) = true := decide_eq_true c17
                      clear c17
                      by_cases c18 : (wrap64 (Int.tdiv a0 16)) ≤ 13
                      · rw [if_pos c18] at H
                        have c18b0 : decide ((wrap64 (Int.tdiv a0 16)) ≤ 13) = true := decide_eq_true c18
                        clear c18
                        obtain rfl := Option.some.inj H
                        go_wp2
                        go_ret
                        exact ⟨by first | rfl | (simp; done) | (simp [*]; done), by repeat (first | exact Drawn0.refl _ | apply Drawn0.step)⟩
                      · rw [if_neg c18] at H
                        have c18b0 : decide ((wrap64 (Int.tdiv a0 16)) ≤ 13) = false := decide_eq_false c18
                        clear c18
                        by_cases c19 : a0 = 5
                        · rw [if_pos c19] at H
                          have c19b0 : (a0 == 5) = true := beq_iff_eq.mpr c19
                          have c19b1 : (a0 != 5) = false := bne_eq_false_iff_eq.mpr c19
                          clear c19
                          obtain rfl := Option.some.inj H
                          go_wp2
                          go_ret
                          exact ⟨by first | rfl | (simp; done) | (simp [*]; done), by repeat (first | exact Drawn0.refl _ | apply Drawn0.step)⟩
                        · rw [if_neg c19] at H
                          have c19b0 : (a0 == 5) = false := beq_eq_false_iff_ne.mpr c19
                          have c19b1 : (a0 != 5) = true := bne_iff_ne.mpr c19
                          by_cases c20 : a0 = 133
                          · rw [if_pos c20] at H
                            have c20b0 : (a0 == 133) = true := beq_iff_eq.mpr c20
                            have c20b1 : (a0 != 133) = false := bne_eq_false_iff_eq.mpr c20
                            clear c20
                            obtain rfl := Option.some.inj H
                            go_wp2
                            go_ret
                            exact ⟨by first | rfl | (simp; done) | (simp [*]; done), by repeat (first | exact Drawn0.refl _ | apply Drawn0.step)⟩
                          · rw [if_neg c20] at H
                            have c20b0 : (a0 == 133) = false := beq_eq_false_iff_ne.mpr c20
                            have c20b1 : (a0 != 133) = true := bne_iff_ne.mpr c20
                            obtain rfl := Option.some.inj H
                            go_wp2
                            go_ret
                            exact ⟨by first | rfl | (simp; done) | (simp [*]; done), by repeat (first | exact Drawn0.refl _ | apply Drawn0.step)⟩
                    · rw [if_neg c17] at H
                      have c17b0 : decide (10 ≤ (wrap64 (Int.tdiv a0 16))) = false := decide_eq_false c17
                      clear c17
                      by_cases c21 : a0 = 5
                      · rw [if_pos c21] at H
                        have c21b0 : (a0 == 5) = true := beq_iff_eq.mpr c21
                        have c21b1 : (a0 != 5) = false := bne_eq_false_iff_eq.mpr c21
                        clear c21
                        obtain rfl := Option.some.inj H
                        go_wp2
                        go_ret
                        exact ⟨by first | rfl | (simp; done) | (simp [*]; done), by repeat (first | exact Drawn0.refl _ | apply Drawn0.step)⟩
                      · rw [if_neg c21] at H
                        have c21b0 : (a0 == 5) = false := beq_eq_false_iff_ne.mpr c21
                        have c21b1 : (a0 != 5) = true := bne_iff_ne.mpr c21
                        by_cases c22 : a0 = 133
                        · rw [if_pos c22] at H
                          have c22b0 : (a0 == 133) = true := beq_iff_eq.mpr c22
                          have c22b1 : (a0 != 133) = false := bne_eq_false_iff_eq.mpr c22
                          clear c22
                          obtain rfl := Option.some.inj H
                          go_wp2
                          go_ret
                          exact ⟨by first | rfl | (simp; done) | (simp [*]; done), by repeat (first | exact Drawn0.refl _ | apply Drawn0.step)⟩
                        · rw [if_neg c22] at H
                          have c22b0 : (a0 == 133) = false := beq_eq_false_iff_ne.mpr c22
                          have c22b1 : (a0 != 133) = true := bne_iff_ne.mpr c22
                          obtain rfl := Option.some.inj H
                          go_wp2
                          go_ret
                          exact ⟨by first | rfl | (simp; done) | (simp [*]; done), by repeat (first | exact Drawn0.refl _ | apply Drawn0.step)⟩
                · rw [if_neg c15] at H
                  have c15b0 : decide (1 ≤ (wrap64 (Int.tdiv a0 16))) = false := decide_eq_false c15
                  clear c15
                  by_cases c23 : (wrap64 (Int.tdiv a0 16)) ≥ 10
                  · rw [if_pos c23] at H
                    have c23b0 : decide (10 ≤ (wrap64 (Int.tdiv a0 16))) = true := decide_eq_true c23
                    clear c23
                    by_cases c24 : (wrap64 (Int.tdiv a0 16)) ≤ 13
                    · rw [if_pos c24] at H
                      have c24b0 : decide ((wrap64 (Int.tdiv a0 16)) ≤ 13) = true := decide_eq_true c24
                      clear c24
                      obtain rfl := Option.some.inj H
                      go_wp2
                      go_ret
                      exact ⟨by first | rfl | (simp; done) | (simp [*]; done), by repeat (first | exact Drawn0.refl _ | apply Drawn0.step)⟩
                    · rw [if_neg c24] at H
                      have c24b0 : decide ((wrap64 (Int.tdiv a0 16)) ≤ 13) = false := decide_eq_false c24
                      clear c24
                      by_cases c25 : a0 = 5
                      · rw [if_pos c25] at H
                        have c25b0 : (a0 == 5) = true := beq_iff_eq.mpr c25
                        have c25b1 : (a0 != 5) = false := bne_eq_false_iff_eq.mpr c25
                        clear c25
                        obtain rfl := Option.some.inj H
                        go_wp2
                        go_ret
                        exact ⟨by first | rfl | (simp; done) | (simp [*]; done), by repeat (first | exact Drawn0.refl _ | apply Drawn0.step)⟩
                      · rw [if_neg c25] at H
                        have c25b0 : (a0 == 5) = false := beq_eq_false_iff_ne.mpr c25
                        have c25b1 : (a0 != 5) = true := bne_iff_ne.mpr c25
                        by_cases c26 : a0 = 133
                        · rw [if_pos c26] at H
                          have c26b0 : (a0 == 133) = true := beq_iff_eq.mpr c26
                          have c26b1 : (a0 != 133) = false := bne_eq_false_iff_eq.mpr c26
                          clear c26
                          obtain rfl := Option.some.inj H
                          go_wp2
                          go_ret
                          exact ⟨by first | rfl | (simp; done) | (simp [*]; done), by repeat (first | exact Drawn0.refl _ | apply Drawn0.step)⟩
                        · rw [if_neg c26] at H
                          have c26b0 : (a0 == 133) = false := beq_eq_false_iff_ne.mpr c26
                          have c26b1 : (a0 != 133) = true := bne_iff_ne.mpr c26
                          obtain rfl := Option.some.inj H
                          go_wp2
                          go_ret
                          exact ⟨by first | rfl | (simp; done) | (simp [*]; done), by repeat (first | exact Drawn0.refl _ | apply Drawn0.step)⟩
                  · rw [if_neg c23] at H
                    have c23b0 : decide (10 ≤ (wrap64 (Int.tdiv a0 16))) = false := decide_eq_false c23
                    clear c23
                    by_cases c27 : a0 = 5
                    · rw [if_pos c27] at H
                      have c27b0 : (a0 == 5) = true := beq_iff_eq.mpr c27
                      have c27b1 : (a0 != 5) = false := bne_eq_false_iff_eq.mpr c27
                      clear c27
                      obtain rfl := Option.some.inj H
                      go_wp2
                      go_ret
                      exact ⟨by first | rfl | (simp; done) | (simp [*]; done), by repeat (first | exact Drawn0.refl _ | apply Drawn0.step)⟩
                    · rw [if_neg c27] at H
                      have c27b0 : (a0 == 5) = false := beq_eq_false_iff_ne.mpr c27
                      have c27b1 : (a0 != 5) = true := bne_iff_ne.mpr c27
                      by_cases c28 : a0 = 133
                      · rw [if_pos c28] at H
                        have c28b0 : (a0 == 133) = true := beq_iff_eq.mpr c28
                        have c28b1 : (a0 != 133) = false := bne_eq_false_iff_eq.mpr c28
                        clear c28
                        obtain rfl := Option.some.inj H
                        go_wp2
                        go_ret
                        exact ⟨by first | rfl | (simp; done) | (simp [*]; done), by repeat (first | exact Drawn0.refl _ | apply Drawn0.step)⟩
                      · rw [if_neg c28] at H
                        have c28b0 : (a0 == 133) = false := beq_eq_false_iff_ne.mpr c28
                        have c28b1 : (a0 != 133) = true := bne_iff_ne.mpr c28
                        obtain rfl := Option.some.inj H
                        go_wp2
                        go_ret
                        exact ⟨by first | rfl | (simp; done) | (simp [*]; done), by repeat (first | exact Drawn0.refl _ | apply Drawn0.step)⟩

/-! ### insn_Kind: function 20 -/
def insn_Kind.f (a0 : Int) : Option (Int) := some (wrap64 (Go.bits .and .u8 a0 240))
set_option maxHeartbeats 8000000 in
set_option maxRecDepth 100000 in
theorem insn_Kind.calls (a0 : Int) (r : Int) (w : World) (h : insn_Kind.f a0 = some r) :
    Calls Try.prog 20 #[.int .u8 a0] w fun e w' => e = .returned (.int .i64 r) ∧ Drawn0 w w' := by
  have H : (some (wrap64 (Go.bits .and .u8 a0 240))) = some r := h
  clear h
  obtain rfl := Option.some.inj H
  go_enter Try.func20, Try.ntmps20
  go_wp2
  go_ret
  exact ⟨by first | rfl | (simp; done) | (simp [*]; done), by repeat (first | exact Drawn0.refl _ | apply Drawn0.step)⟩

/-! ### insn_Size: function 22 (given) -/
def insn_Size.f (a0 : Int) : Option (Int) := (insn_Class.f a0).bind fun c => if c < 1 then some 0 else if c > 3 then some 0 else (insn_Known.f 10 a0).bind fun b => if b = true then (if Go.bits .and .u8 (a0 / 8) 3 = 0 then some 4 else if Go.bits .and .u8 (a0 / 8) 3 = 1 then some 2 else if Go.bits .and .u8 (a0 / 8) 3 = 2 then some 1 else if Go.bits .and .u8 (a0 / 8) 3 = 3 then some 8 else none) else some 0
set_option maxHeartbeats 8000000 in
set_option maxRecDepth 100000 in
theorem insn_Size.calls (a0 : Int) (r : Int) (w : World) (h : insn_Size.f a0 = some r) :
    Calls Try.prog 22 #[.int .u8 a0] w fun e w' => e = .returned (.int .i64 r) ∧ Drawn0 w w' := by
  unfold insn_Size.f at h
  obtain ⟨c, A1, h⟩ := Option.bind_eq_some_iff.mp h
  have B1 := Aside0.mk A1
  clear A1
  by_cases c1 : c < 1
  · rw [if_pos c1] at h
    obtain rfl := Option.some.inj h
    have c1b : decide (c < 1) = true := decide_eq_true c1
    clear h
    go_enter Try.func22, Try.ntmps22
    go_wp2_with (first | (go_at_call 19; refine (insn_Class.calls a0 c _ B1.out).mono ?_; rintro e w' ⟨rfl, ⟨nd, rfl⟩⟩) | (go_at_call 17; refine (insn_Known.calls 10 a0 _ _ (show insn_Known.f 10 a0 = some true from by assumption)).mono ?_; rintro e w' ⟨rfl, ⟨nd, rfl⟩⟩))
    go_ret
    exact ⟨by first | rfl | (simp; done) | (simp [*]; done), by repeat (first | exact Drawn0.refl _ | apply Drawn0.step)⟩
  · rw [if_neg c1] at h
    have c1b : decide (c < 1) = false := decide_eq_false c1
    by_cases c2 : c > 3
    · rw [if_pos c2] at h
      obtain rfl := Option.some.inj h
      have c2b : decide (3 < c) = true := decide_eq_true c2
      clear h
      go_enter Try.func22, Try.ntmps22
      go_wp2_with (first | (go_at_call 19; refine (insn_Class.calls a0 c _ B1.out).mono ?_; rintro e w' ⟨rfl, ⟨nd, rfl⟩⟩) | (go_at_call 17; refine (insn_Known.calls 10 a0 _ _ (show insn_Known.f 10 a0 = some true from by assumption)).mono ?_; rintro e w' ⟨rfl, ⟨nd, rfl⟩⟩))
      go_ret
      exact ⟨by first | rfl | (simp; done) | (simp [*]; done), by repeat (first | exact Drawn0.refl _ | apply Drawn0.step)⟩
    · rw [if_neg c2] at h
      have c2b : decide (3 < c) = false := decide_eq_false c2
      obtain ⟨b, A2, h⟩ := Option.bind_eq_some_iff.mp h
      cases b with
      | false =>
        have B2 := Aside0.mk A2
        clear A2
        obtain rfl := Option.some.inj h
        clear h
        go_enter Try.func22, Try.ntmps22
        go_wp2_with (first | (go_at_call 19; refine (insn_Class.calls a0 c _ B1.out).mono ?_; rintro e w' ⟨rfl, ⟨nd, rfl⟩⟩) | (go_at_call 17; refine (insn_Known.calls 10 a0 _ _ B2.out).mono ?_; rintro e w' ⟨rfl, ⟨nd, rfl⟩⟩))
        go_ret
        exact ⟨by first | rfl | (simp; done) | (simp [*]; done), by repeat (first | exact Drawn0.refl _ | apply Drawn0.step)⟩
      | true =>
        have B2 := Aside0.mk A2
        clear A2
        rw [if_pos rfl] at h
        by_cases d0 : Go.bits .and .u8 (a0 / 8) 3 = 0
        · rw [if_pos d0] at h
          obtain rfl := Option.some.inj h
          clear h
          have i0 : ∀ w, (Instr.index 70 (.agg #[.int .i64 4, .int .i64 2, .int .i64 1, .int .i64 8]) (.int .u8 0)).run Try.prog w = .ok (.int .i64 4) w := fun _ => by kernel_rfl
          go_enter Try.func22, Try.ntmps22
          go_wp2_with (first | (go_at_call 19; refine (insn_Class.calls a0 c _ B1.out).mono ?_; rintro e w' ⟨rfl, ⟨nd, rfl⟩⟩) | (go_at_call 17; refine (insn_Known.calls 10 a0 _ _ B2.out).mono ?_; rintro e w' ⟨rfl, ⟨nd, rfl⟩⟩))
          go_ret
          exact ⟨by first | rfl | (simp; done) | (simp [*]; done), by repeat (first | exact Drawn0.refl _ | apply Drawn0.step)⟩
        rw [if_neg d0] at h
        clear d0
        by_cases d0 : Go.bits .and .u8 (a0 / 8) 3 = 1
        · rw [if_pos d0] at h
          obtain rfl := Option.some.inj h
          clear h
          have i0 : ∀ w, (Instr.index 70 (.agg #[.int .i64 4, .int .i64 2, .int .i64 1, .int .i64 8]) (.int .u8 1)).run Try.prog w = .ok (.int .i64 2) w := fun _ => by kernel_rfl
          go_enter Try.func22, Try.ntmps22
          go_wp2_with (first | (go_at_call 19; refine (insn_Class.calls a0 c _ B1.out).mono ?_; rintro e w' ⟨rfl, ⟨nd, rfl⟩⟩) | (go_at_call 17; refine (insn_Known.calls 10 a0 _ _ B2.out).mono ?_; rintro e w' ⟨rfl, ⟨nd, rfl⟩⟩))
          go_ret
          exact ⟨by first | rfl | (simp; done) | (simp [*]; done), by repeat (first | exact Drawn0.refl _ | apply Drawn0.step)⟩
        rw [if_neg d0] at h
        clear d0
        by_cases d0 : Go.bits .and .u8 (a0 / 8) 3 = 2
        · rw [if_pos d0] at h
          obtain rfl := Option.some.inj h
          clear h
          have i0 : ∀ w, (Instr.index 70 (.agg #[.int .i64 4, .int .i64 2, .int .i64 1, .int .i64 8]) (.int .u8 2)).run Try.prog w = .ok (.int .i64 1) w := fun _ => by kernel_rfl
          go_enter Try.func22, Try.ntmps22
          go_wp2_with (first | (go_at_call 19; refine (insn_Class.calls a0 c _ B1.out).mono ?_; rintro e w' ⟨rfl, ⟨nd, rfl⟩⟩) | (go_at_call 17; refine (insn_Known.calls 10 a0 _ _ B2.out).mono ?_; rintro e w' ⟨rfl, ⟨nd, rfl⟩⟩))
          go_ret
          exact ⟨by first | rfl | (simp; done) | (simp [*]; done), by repeat (first | exact Drawn0.refl _ | apply Drawn0.step)⟩
        rw [if_neg d0] at h
        clear d0
        by_cases d0 : Go.bits .and .u8 (a0 / 8) 3 = 3
        · rw [if_pos d0] at h
          obtain rfl := Option.some.inj h
          clear h
          have i0 : ∀ w, (Instr.index 70 (.agg #[.int .i64 4, .int .i64 2, .int .i64 1, .int .i64 8]) (.int .u8 3)).run Try.prog w = .ok (.int .i64 8) w := fun _ => by kernel_rfl
          go_enter Try.func22, Try.ntmps22
          go_wp2_with (first | (go_at_call 19; refine (insn_Class.calls a0 c _ B1.out).mono ?_; rintro e w' ⟨rfl, ⟨nd, rfl⟩⟩) | (go_at_call 17; refine (insn_Known.calls 10 a0 _ _ B2.out).mono ?_; rintro e w' ⟨rfl, ⟨nd, rfl⟩⟩))
          go_ret
          exact ⟨by first | rfl | (simp; done) | (simp [*]; done), by repeat (first | exact Drawn0.refl _ | apply Drawn0.step)⟩
        rw [if_neg d0] at h
        exact absurd h (by simp)

/-! ### posternref02_Size: function 23 -/
def posternref02_Size.f (k : Nat) (a0 : Int) : Option (Int) := if (Int.tmod a0 8) < 1 then (some 0) else (if (Int.tmod a0 8) > 3 then (some 0) else ((posternref02_Known.f k a0).bind fun t140 => (if t140 = true then ((some (([4, 2, 1, 8] : List Int) : List Int)).bind fun y141 => (if 0 ≤ (wrap64 ((wrap64 (Int.tdiv a0 8)) - 12)) then (if (wrap64 ((wrap64 (Int.tdiv a0 8)) - 12)) < (y141.length : Int) then (some (rd y141 (wrap64 ((wrap64 (Int.tdiv a0 8)) - 12)))) else (none)) else (none))) else (some 0))))
theorem posternref02_Size.mono : ∀ a0 k, LeO (posternref02_Size.f k a0) (posternref02_Size.f (k + 1) a0) := by
  intro a0 k
  unfold posternref02_Size.f
  repeat' first
      | (with_reducible exact posternref02_Known.mono _ _)
      | (with_reducible exact LeO.refl _)
      | (with_reducible exact LeO.none _)
      | (with_reducible refine LeO.ite ?_ ?_)
      | (with_reducible refine LeO.bind ?_ (fun _ => ?_))
      | exact posternref02_Known.mono _ _
      | exact LeO.none _
      | refine LeO.ite ?_ ?_
      | refine LeO.bind ?_ (fun _ => ?_)
set_option maxHeartbeats 8000000 in
set_option maxRecDepth 100000 in
theorem posternref02_Size.calls (k : Nat) (a0 : Int) (r : Int) (w : World) (h : posternref02_Size.f k a0 = some r) :
    Calls Try.prog 23 #[.int .i64 a0] w fun e w' => e = .returned (.int .i64 r) ∧ Below w.heap.size w w' := by
  have HB := Aside0.mk (Below.refl w.heap.size w)
  have H : (if (Int.tmod a0 8) < 1 then (some 0) else (if (Int.tmod a0 8) > 3 then (some 0) else ((posternref02_Known.f k a0).bind fun t140 => (if t140 = true then ((some (([4, 2, 1, 8] : List Int) : List Int)).bind fun y141 => (if 0 ≤ (wrap64 ((wrap64 (Int.tdiv a0 8)) - 12)) then (if (wrap64 ((wrap64 (Int.tdiv a0 8)) - 12)) < (y141.length : Int) then (some (rd y141 (wrap64 ((wrap64 (Int.tdiv a0 8)) - 12)))) else (none)) else (none))) else (some 0))))) = some r := h
  clear h
  by_cases c2 : (Int.tmod a0 8) < 1
  · rw [if_pos c2] at H
    have c2b0 : decide ((Int.tmod a0 8) < 1) = true := decide_eq_true c2
    clear c2
    obtain rfl := Option.some.inj H
    go_enter Try.func23, Try.ntmps23
    go_wp2
    go_ret
    exact ⟨by first | rfl | (simp [errW_none, errW_some] <;> rfl) | (simp [*, errW_none, errW_some] <;> rfl), by repeat (first | (with_reducible first | exact HB.out | apply below_alloc | apply pw_below_drewN | apply below_drew1) | exact HB.out)⟩
  · rw [if_neg c2] at H
    have c2b0 : decide ((Int.tmod a0 8) < 1) = false := decide_eq_false c2
    clear c2
    by_cases c3 : (Int.tmod a0 8) > 3
    · rw [if_pos c3] at H
      have c3b0 : decide (3 < (Int.tmod a0 8)) = true := decide_eq_true c3
      clear c3
      obtain rfl := Option.some.inj H
      go_enter Try.func23, Try.ntmps23
      go_wp2
      go_ret
      exact ⟨by first | rfl | (simp [errW_none, errW_some] <;> rfl) | (simp [*, errW_none, errW_some] <;> rfl), by repeat (first | (with_reducible first | exact HB.out | apply below_alloc | apply pw_below_drewN | apply below_drew1) | exact HB.out)⟩
    · rw [if_neg c3] at H
      have c3b0 : decide (3 < (Int.tmod a0 8)) = false := decide_eq_false c3
      clear c3
      replace H := Option.bind_eq_some_iff.mp H
      obtain ⟨t140, A40, H⟩ := H
      replace H : (if t140 = true then ((some (([4, 2, 1, 8] : List Int) : List Int)).bind fun y141 => (if 0 ≤ (wrap64 ((wrap64 (Int.tdiv a0 8)) - 12)) then (if (wrap64 ((wrap64 (Int.tdiv a0 8)) - 12)) < (y141.length : Int) then (some (rd y141 (wrap64 ((wrap64 (Int.tdiv a0 8)) - 12)))) else (none)) else (none))) else (some 0)) = some r := H
      have A4 := Aside0.mk A40
      clear A40
      by_cases c5 : t140 = true
      · subst c5
        have H1 : ((some (([4, 2, 1, 8] : List Int) : List Int)).bind fun y141 => (if 0 ≤ (wrap64 ((wrap64 (Int.tdiv a0 8)) - 12)) then (if (wrap64 ((wrap64 (Int.tdiv a0 8)) - 12)) < (y141.length : Int) then (some (rd y141 (wrap64 ((wrap64 (Int.tdiv a0 8)) - 12)))) else (none)) else (none))) = some r := by rw [if_pos rfl] at H; exact H
        clear H
        have H := H1
        clear H1
        obtain ⟨y141, hy141⟩ : ∃ y_ : List Int, y_ = (([4, 2, 1, 8] : List Int)) := ⟨_, rfl⟩
        replace H : (if 0 ≤ (wrap64 ((wrap64 (Int.tdiv a0 8)) - 12)) then (if (wrap64 ((wrap64 (Int.tdiv a0 8)) - 12)) < (y141.length : Int) then (some (rd y141 (wrap64 ((wrap64 (Int.tdiv a0 8)) - 12)))) else (none)) else (none)) = some r := by first | (rw [hy141]; with_reducible exact H) | (have H2_ := (Option.bind_some _ _).symm.trans H; rw [hy141]; with_reducible exact H2_) | (have H2_ := (Option.bind_some _ _).symm.trans H; with_reducible exact H2_) | with_reducible exact H | (rw [hy141]; exact H) | exact H
        have Ny141 := Aside0.mk hy141
        clear hy141
        obtain ⟨ji6, hji6⟩ : ∃ j_ : Int, (wrap64 ((wrap64 (Int.tdiv a0 8)) - 12)) = j_ := ⟨_, rfl⟩
        replace H : (if 0 ≤ (ji6) then (if (ji6) < (y141.length : Int) then (some (rd y141 (ji6))) else (none)) else (none)) = some r := by first | (rw [hji6] at H; exact H) | (simp only [hji6] at H ⊢; exact H)
        (try rw [hji6] at A4)
        have hji6w : (IntKind.i64.wrap ((wrap64 (Int.tdiv a0 8)) - 12)) = ji6 := (i64_w _).trans hji6
        by_cases c7 : 0 ≤ (ji6)
        · rw [if_pos c7] at H
          have c7b0 : decide (0 ≤ (ji6)) = true := decide_eq_true c7
          clear c7
          by_cases c8 : (ji6) < (y141.length : Int)
          · rw [if_pos c8] at H
            have c8b0 : decide ((ji6) < (y141.length : Int)) = true := decide_eq_true c8
            clear c8
            obtain rfl := Option.some.inj H
            go_enter Try.func23, Try.ntmps23
            go_wp2_with (first | (go_at_call 18; (with_reducible refine (posternref02_Known.calls k a0 true _ A4.out).mono ?_); rintro e w' ⟨rfl, ⟨nd, rfl⟩⟩) | ((with_reducible refine gate_dst (N := 16) rfl ?_); refine Kd.R_lit (Kd.int .i64) _ 3 ?hg (N := 16) ?hd (xs := ([4, 2, 1, 8] : List Int)) (inner := [.int .i64 4, .int .i64 2, .int .i64 1, .int .i64 8]) (ok := fun _ => True) (okp := fun _ => True) ?hr ?hp (fun _ hk => hk) trivial (Below.refl _ _) (Nat.le_refl _) (by simp) ?_; (case hd => rfl); (case hg => rfl); (case hr => first | (go_simp; done) | (go_simp; rfl)); (case hp => exact (Reps.one (show Kd.M (Kd.int .i64) _ _ _ 4 [.int .i64 4] from rfl) (Reps.one (show Kd.M (Kd.int .i64) _ _ _ 2 [.int .i64 2] from rfl) (Reps.one (show Kd.M (Kd.int .i64) _ _ _ 1 [.int .i64 1] from rfl) (Reps.one (show Kd.M (Kd.int .i64) _ _ _ 8 [.int .i64 8] from rfl) (Reps.none _ _)))))); intro v142 w9 ho10 hb hg_ hnew_; clear hg_ hnew_; (first | rw [← Ny141.out] at ho10 | (simp only [Int.reduceToNat] at ho10; rw [← Ny141.out] at ho10)); have n0_ := Aside0.mk (Kd.R_lower ho10 (below_size (by repeat (first | (with_reducible first | exact HB.out | apply below_alloc | apply pw_below_drewN | apply below_drew1) | exact HB.out)))); have n1_ := Aside0.mk (below_step (by repeat (first | (with_reducible first | exact HB.out | apply below_alloc | apply pw_below_drewN | apply below_drew1) | exact HB.out)) hb); clear HB; have HO143 := n0_; have HB := n1_; clear n0_ n1_; clear hb ho10; obtain ⟨Ao11, co11, eo11⟩ := Kd.R_slice HO143.out; subst eo11; have p144 : 0 ≤ ((ji6) : Int) := of_decide_eq_true (by first | (with_reducible assumption) | assumption); have q144 : (ji6) < (y141.length : Int) := of_decide_eq_true (by first | (with_reducible assumption) | assumption); obtain ⟨ad144, e144, hx144_0⟩ := Kd.at_int (Kd.R_reads' HO143.out).2.2 (ji6) p144 q144; cases e144; replace p144 := eq_true p144; replace q144 := eq_true q144))
            go_ret
            exact ⟨by first | rfl | (simp [errW_none, errW_some] <;> rfl) | (simp only [← hji6]; first | rfl | (simp [errW_none, errW_some] <;> rfl)) | (simp [*, errW_none, errW_some] <;> rfl), by repeat (first | (with_reducible first | exact HB.out | apply below_alloc | apply pw_below_drewN | apply below_drew1) | exact HB.out)⟩
          · rw [if_neg c8] at H
            exact absurd H (by simp)
        · rw [if_neg c7] at H
          exact absurd H (by simp)
      · replace c5 := Bool.eq_false_iff.mpr c5
        subst c5
        have H1 : (some 0) = some r := by rw [if_neg (show ¬ (false = true) by decide)] at H; exact H
        clear H
        have H := H1
        clear H1
        obtain rfl := Option.some.inj H
        go_enter Try.func23, Try.ntmps23
        go_wp2_with (first | (go_at_call 18; (with_reducible refine (posternref02_Known.calls k a0 false _ A4.out).mono ?_); rintro e w' ⟨rfl, ⟨nd, rfl⟩⟩))
        go_ret
        exact ⟨by first | rfl | (simp [errW_none, errW_some] <;> rfl) | (simp [*, errW_none, errW_some] <;> rfl), by repeat (first | (with_reducible first | exact HB.out | apply below_alloc | apply pw_below_drewN | apply below_drew1) | exact HB.out)⟩

/-! ### posternlaw02_InsnOps: function 4 -/
def posternlaw02_InsnOps.f (k : Nat) (a0 : Int) : Option (Bool) := (posternlaw02_first.f k).bind fun t145 => (if t145 = true then ((insn_Known.f k a0).bind fun t146 => ((posternref02_Known.f k (wrap64 (a0))).bind fun t147 => (if (t146 == t147) = true then ((insn_Class.f a0).bind fun t148 => (if t148 = (Int.tmod (wrap64 (a0)) 8) then ((insn_Kind.f a0).bind fun t149 => (if t149 = (wrap64 ((wrap64 (Int.tdiv (wrap64 (a0)) 16)) * 16)) then ((insn_ByReg.f a0).bind fun t150 => (if (t150 == ((Int.tmod (wrap64 (Int.tdiv (wrap64 (a0)) 8)) 2) == 1)) = true then ((insn_Size.f a0).bind fun t151 => ((posternref02_Size.f k (wrap64 (a0))).bind fun t152 => (if t151 = t152 then ((insn_Wide.f a0).bind fun t153 => (some (t153 == ((wrap64 (a0)) == 24)))) else (some false)))) else (some false))) else (some false))) else (some false))) else (some false)))) else (some false))
theorem posternlaw02_InsnOps.mono : ∀ a0 k, LeO (posternlaw02_InsnOps.f k a0) (posternlaw02_InsnOps.f (k + 1) a0) := by
  intro a0 k
  unfold posternlaw02_InsnOps.f
  repeat' first
      | (with_reducible exact insn_Known.mono _ _)
      | (with_reducible exact posternlaw02_first.mono _)
      | (with_reducible exact posternref02_Known.mono _ _)
      | (with_reducible exact posternref02_Size.mono _ _)
      | (with_reducible exact LeO.refl _)
      | (with_reducible exact LeO.none _)
      | (with_reducible refine LeO.ite ?_ ?_)
      | (with_reducible refine LeO.bind ?_ (fun _ => ?_))
      | exact insn_Known.mono _ _
      | exact posternlaw02_first.mono _
      | exact posternref02_Known.mono _ _
      | exact posternref02_Size.mono _ _
      | exact LeO.none _
      | refine LeO.ite ?_ ?_
      | refine LeO.bind ?_ (fun _ => ?_)
set_option maxHeartbeats 8000000 in
set_option maxRecDepth 100000 in
theorem posternlaw02_InsnOps.calls (k : Nat) (a0 : Int) (r : Bool) (w : World) (hr_ : Aside0 (r = true)) (h : posternlaw02_InsnOps.f k a0 = some r) :
    Calls Try.prog 4 #[.int .u8 a0] w fun e w' => e = .returned (.bool r) ∧ Below w.heap.size w w' := by
  have HB := Aside0.mk (Below.refl w.heap.size w)
  have H : ((posternlaw02_first.f k).bind fun t145 => (if t145 = true then ((insn_Known.f k a0).bind fun t146 => ((posternref02_Known.f k (wrap64 (a0))).bind fun t147 => (if (t146 == t147) = true then ((insn_Class.f a0).bind fun t148 => (if t148 = (Int.tmod (wrap64 (a0)) 8) then ((insn_Kind.f a0).bind fun t149 => (if t149 = (wrap64 ((wrap64 (Int.tdiv (wrap64 (a0)) 16)) * 16)) then ((insn_ByReg.f a0).bind fun t150 => (if (t150 == ((Int.tmod (wrap64 (Int.tdiv (wrap64 (a0)) 8)) 2) == 1)) = true then ((insn_Size.f a0).bind fun t151 => ((posternref02_Size.f k (wrap64 (a0))).bind fun t152 => (if t151 = t152 then ((insn_Wide.f a0).bind fun t153 => (some (t153 == ((wrap64 (a0)) == 24)))) else (some false)))) else (some false))) else (some false))) else (some false))) else (some false)))) else (some false))) = some r := h
  clear h
  replace H := Option.bind_eq_some_iff.mp H
  obtain ⟨t145, A20, H⟩ := H
  replace H : (if t145 = true then ((insn_Known.f k a0).bind fun t146 => ((posternref02_Known.f k (wrap64 (a0))).bind fun t147 => (if (t146 == t147) = true then ((insn_Class.f a0).bind fun t148 => (if t148 = (Int.tmod (wrap64 (a0)) 8) then ((insn_Kind.f a0).bind fun t149 => (if t149 = (wrap64 ((wrap64 (Int.tdiv (wrap64 (a0)) 16)) * 16)) then ((insn_ByReg.f a0).bind fun t150 => (if (t150 == ((Int.tmod (wrap64 (Int.tdiv (wrap64 (a0)) 8)) 2) == 1)) = true then ((insn_Size.f a0).bind fun t151 => ((posternref02_Size.f k (wrap64 (a0))).bind fun t152 => (if t151 = t152 then ((insn_Wide.f a0).bind fun t153 => (some (t153 == ((wrap64 (a0)) == 24)))) else (some false)))) else (some false))) else (some false))) else (some false))) else (some false)))) else (some false)) = some r := H
  have A2 := Aside0.mk A20
  clear A20
  by_cases c3 : t145 = true
  · subst c3
    have H1 : ((insn_Known.f k a0).bind fun t146 => ((posternref02_Known.f k (wrap64 (a0))).bind fun t147 => (if (t146 == t147) = true then ((insn_Class.f a0).bind fun t148 => (if t148 = (Int.tmod (wrap64 (a0)) 8) then ((insn_Kind.f a0).bind fun t149 => (if t149 = (wrap64 ((wrap64 (Int.tdiv (wrap64 (a0)) 16)) * 16)) then ((insn_ByReg.f a0).bind fun t150 => (if (t150 == ((Int.tmod (wrap64 (Int.tdiv (wrap64 (a0)) 8)) 2) == 1)) = true then ((insn_Size.f a0).bind fun t151 => ((posternref02_Size.f k (wrap64 (a0))).bind fun t152 => (if t151 = t152 then ((insn_Wide.f a0).bind fun t153 => (some (t153 == ((wrap64 (a0)) == 24)))) else (some false)))) else (some false))) else (some false))) else (some false))) else (some false)))) = some r := by rw [if_pos rfl] at H; exact H
    clear H
    have H := H1
    clear H1
    replace H := Option.bind_eq_some_iff.mp H
    obtain ⟨t146, A40, H⟩ := H
    replace H : ((posternref02_Known.f k (wrap64 (a0))).bind fun t147 => (if (t146 == t147) = true then ((insn_Class.f a0).bind fun t148 => (if t148 = (Int.tmod (wrap64 (a0)) 8) then ((insn_Kind.f a0).bind fun t149 => (if t149 = (wrap64 ((wrap64 (Int.tdiv (wrap64 (a0)) 16)) * 16)) then ((insn_ByReg.f a0).bind fun t150 => (if (t150 == ((Int.tmod (wrap64 (Int.tdiv (wrap64 (a0)) 8)) 2) == 1)) = true then ((insn_Size.f a0).bind fun t151 => ((posternref02_Size.f k (wrap64 (a0))).bind fun t152 => (if t151 = t152 then ((insn_Wide.f a0).bind fun t153 => (some (t153 == ((wrap64 (a0)) == 24)))) else (some false)))) else (some false))) else (some false))) else (some false))) else (some false))) = some r := H
    have A4 := Aside0.mk A40
    clear A40
    replace H := Option.bind_eq_some_iff.mp H
    obtain ⟨t147, A50, H⟩ := H
    replace H : (if (t146 == t147) = true then ((insn_Class.f a0).bind fun t148 => (if t148 = (Int.tmod (wrap64 (a0)) 8) then ((insn_Kind.f a0).bind fun t149 => (if t149 = (wrap64 ((wrap64 (Int.tdiv (wrap64 (a0)) 16)) * 16)) then ((insn_ByReg.f a0).bind fun t150 => (if (t150 == ((Int.tmod (wrap64 (Int.tdiv (wrap64 (a0)) 8)) 2) == 1)) = true then ((insn_Size.f a0).bind fun t151 => ((posternref02_Size.f k (wrap64 (a0))).bind fun t152 => (if t151 = t152 then ((insn_Wide.f a0).bind fun t153 => (some (t153 == ((wrap64 (a0)) == 24)))) else (some false)))) else (some false))) else (some false))) else (some false))) else (some false)) = some r := H
    have A5 := Aside0.mk A50
    clear A50
    by_cases c6 : (t146 == t147) = true
    · rw [if_pos c6] at H
      have c6b0 : (t146 == t147) = true := c6
      (try (have c6b1 : decide (t146 = t147) = true := by simpa using c6))
      (try (have c6b2 : (t146 == t147) = true := by simpa using c6))
      clear c6
      replace H := Option.bind_eq_some_iff.mp H
      obtain ⟨t148, A70, H⟩ := H
      replace H : (if t148 = (Int.tmod (wrap64 (a0)) 8) then ((insn_Kind.f a0).bind fun t149 => (if t149 = (wrap64 ((wrap64 (Int.tdiv (wrap64 (a0)) 16)) * 16)) then ((insn_ByReg.f a0).bind fun t150 => (if (t150 == ((Int.tmod (wrap64 (Int.tdiv (wrap64 (a0)) 8)) 2) == 1)) = true then ((insn_Size.f a0).bind fun t151 => ((posternref02_Size.f k (wrap64 (a0))).bind fun t152 => (if t151 = t152 then ((insn_Wide.f a0).bind fun t153 => (some (t153 == ((wrap64 (a0)) == 24)))) else (some false)))) else (some false))) else (some false))) else (some false)) = some r := H
      have A7 := Aside0.mk A70
      clear A70
      by_cases c8 : t148 = (Int.tmod (wrap64 (a0)) 8)
      · rw [if_pos c8] at H
        have c8b0 : (t148 == (Int.tmod (wrap64 (a0)) 8)) = true := beq_iff_eq.mpr c8
        have c8b1 : (t148 != (Int.tmod (wrap64 (a0)) 8)) = false := bne_eq_false_iff_eq.mpr c8
        clear c8
        replace H := Option.bind_eq_some_iff.mp H
        obtain ⟨t149, A90, H⟩ := H
        replace H : (if t149 = (wrap64 ((wrap64 (Int.tdiv (wrap64 (a0)) 16)) * 16)) then ((insn_ByReg.f a0).bind fun t150 => (if (t150 == ((Int.tmod (wrap64 (Int.tdiv (wrap64 (a0)) 8)) 2) == 1)) = true then ((insn_Size.f a0).bind fun t151 => ((posternref02_Size.f k (wrap64 (a0))).bind fun t152 => (if t151 = t152 then ((insn_Wide.f a0).bind fun t153 => (some (t153 == ((wrap64 (a0)) == 24)))) else (some false)))) else (some false))) else (some false)) = some r := H
        have A9 := Aside0.mk A90
        clear A90
        by_cases c10 : t149 = (wrap64 ((wrap64 (Int.tdiv (wrap64 (a0)) 16)) * 16))
        · rw [if_pos c10] at H
          have c10b0 : (t149 == (wrap64 ((wrap64 (Int.tdiv (wrap64 (a0)) 16)) * 16))) = true := beq_iff_eq.mpr c10
          have c10b1 : (t149 != (wrap64 ((wrap64 (Int.tdiv (wrap64 (a0)) 16)) * 16))) = false := bne_eq_false_iff_eq.mpr c10
          clear c10
          replace H := Option.bind_eq_some_iff.mp H
          obtain ⟨t150, A110, H⟩ := H
          replace H : (if (t150 == ((Int.tmod (wrap64 (Int.tdiv (wrap64 (a0)) 8)) 2) == 1)) = true then ((insn_Size.f a0).bind fun t151 => ((posternref02_Size.f k (wrap64 (a0))).bind fun t152 => (if t151 = t152 then ((insn_Wide.f a0).bind fun t153 => (some (t153 == ((wrap64 (a0)) == 24)))) else (some false)))) else (some false)) = some r := H
          have A11 := Aside0.mk A110
          clear A110
          by_cases c12 : (t150 == ((Int.tmod (wrap64 (Int.tdiv (wrap64 (a0)) 8)) 2) == 1)) = true
          · rw [if_pos c12] at H
            have c12b0 : (t150 == ((Int.tmod (wrap64 (Int.tdiv (wrap64 (a0)) 8)) 2) == 1)) = true := c12
            (try (have c12b1 : decide (t150 = ((Int.tmod (wrap64 (Int.tdiv (wrap64 (a0)) 8)) 2) == 1)) = true := by simpa using c12))
            (try (have c12b2 : (t150 == ((Int.tmod (wrap64 (Int.tdiv (wrap64 (a0)) 8)) 2) == 1)) = true := by simpa using c12))
            clear c12
            replace H := Option.bind_eq_some_iff.mp H
            obtain ⟨t151, A130, H⟩ := H
            replace H : ((posternref02_Size.f k (wrap64 (a0))).bind fun t152 => (if t151 = t152 then ((insn_Wide.f a0).bind fun t153 => (some (t153 == ((wrap64 (a0)) == 24)))) else (some false))) = some r := H
            have A13 := Aside0.mk A130
            clear A130
            replace H := Option.bind_eq_some_iff.mp H
            obtain ⟨t152, A140, H⟩ := H
            replace H : (if t151 = t152 then ((insn_Wide.f a0).bind fun t153 => (some (t153 == ((wrap64 (a0)) == 24)))) else (some false)) = some r := H
            have A14 := Aside0.mk A140
            clear A140
            by_cases c15 : t151 = t152
            · rw [if_pos c15] at H
              have c15b0 : (t151 == t152) = true := beq_iff_eq.mpr c15
              have c15b1 : (t151 != t152) = false := bne_eq_false_iff_eq.mpr c15
              clear c15
              replace H := Option.bind_eq_some_iff.mp H
              obtain ⟨t153, A160, H⟩ := H
              replace H : (some (t153 == ((wrap64 (a0)) == 24))) = some r := H
              have A16 := Aside0.mk A160
              clear A160
              obtain rfl := Option.some.inj H
              go_enter Try.func4, Try.ntmps4
              go_wp2_with (first | ((with_reducible refine gate_callee (f := 13) rfl ?_); refine goesL_ (some 6) rfl rfl Try.func13 (by kernel_rfl) rfl #[] rfl (by (try simp only [List.map_toArray, List.map_cons, List.map_nil]); first | done | rfl | (simp only [List.length_drop, List.length_take]; rfl)) ?_; (with_reducible refine (posternlaw02_first.calls k  true _ A2.out).mono ?_); rintro e w17 ⟨rfl, hb⟩; refine ⟨_, rfl, ?_⟩; have n0_ := Aside0.mk (below_step (by repeat (first | (with_reducible first | exact HB.out | apply below_alloc | apply pw_below_drewN | apply below_drew1) | exact HB.out)) hb); clear HB; have HB := n0_; clear n0_; (try clear hb); (try clear hb2); (try clear hk); (try clear hi)) | (go_at_call 17; (with_reducible refine (insn_Known.calls k a0 t146 _ A4.out).mono ?_); rintro e w' ⟨rfl, ⟨nd, rfl⟩⟩) | (go_at_call 18; (with_reducible refine (posternref02_Known.calls k (wrap64 (a0)) t147 _ A5.out).mono ?_); rintro e w' ⟨rfl, ⟨nd, rfl⟩⟩) | (go_at_call 19; (with_reducible refine (insn_Class.calls a0 t148 _ A7.out).mono ?_); rintro e w' ⟨rfl, ⟨nd, rfl⟩⟩) | (go_at_call 20; (with_reducible refine (insn_Kind.calls a0 t149 _ A9.out).mono ?_); rintro e w' ⟨rfl, ⟨nd, rfl⟩⟩) | (go_at_call 21; (with_reducible refine (insn_ByReg.calls a0 t150 _ A11.out).mono ?_); rintro e w' ⟨rfl, ⟨nd, rfl⟩⟩) | (go_at_call 22; (with_reducible refine (insn_Size.calls a0 t151 _ A13.out).mono ?_); rintro e w' ⟨rfl, ⟨nd, rfl⟩⟩) | (go_at_call 23; (with_reducible refine (posternref02_Size.calls k (wrap64 (a0)) t152 _ A14.out).mono ?_); rintro e w18 ⟨rfl, hb⟩; have n0_ := Aside0.mk (below_step (by repeat (first | (with_reducible first | exact HB.out | apply below_alloc | apply pw_below_drewN | apply below_drew1) | exact HB.out)) hb); clear HB; have HB := n0_; clear n0_; (try clear hb); (try clear hb2); (try clear hk); (try clear hi)) | (go_at_call 24; (with_reducible refine (insn_Wide.calls a0 t153 _ A16.out).mono ?_); rintro e w' ⟨rfl, ⟨nd, rfl⟩⟩))
              go_ret
              exact ⟨by first | rfl | (simp [errW_none, errW_some] <;> rfl) | (simp [*, errW_none, errW_some] <;> rfl), by repeat (first | (with_reducible first | exact HB.out | apply below_alloc | apply pw_below_drewN | apply below_drew1) | exact HB.out)⟩
            · rw [if_neg c15] at H
              have c15b0 : (t151 == t152) = false := beq_eq_false_iff_ne.mpr c15
              have c15b1 : (t151 != t152) = true := bne_iff_ne.mpr c15
              exact absurd (H.trans (congrArg some hr_.out)) (by simp)
          · rw [if_neg c12] at H
            have c12b0 : (t150 == ((Int.tmod (wrap64 (Int.tdiv (wrap64 (a0)) 8)) 2) == 1)) = false := by simpa using c12
            (try (have c12b1 : decide (t150 = ((Int.tmod (wrap64 (Int.tdiv (wrap64 (a0)) 8)) 2) == 1)) = false := by simpa using c12))
            (try (have c12b2 : (t150 == ((Int.tmod (wrap64 (Int.tdiv (wrap64 (a0)) 8)) 2) == 1)) = false := by simpa using c12))
            (try (have c12b3 : ¬ (t150 = ((Int.tmod (wrap64 (Int.tdiv (wrap64 (a0)) 8)) 2) == 1)) := by simpa using c12))
            clear c12
            exact absurd (H.trans (congrArg some hr_.out)) (by simp)
        · rw [if_neg c10] at H
          have c10b0 : (t149 == (wrap64 ((wrap64 (Int.tdiv (wrap64 (a0)) 16)) * 16))) = false := beq_eq_false_iff_ne.mpr c10
          have c10b1 : (t149 != (wrap64 ((wrap64 (Int.tdiv (wrap64 (a0)) 16)) * 16))) = true := bne_iff_ne.mpr c10
          exact absurd (H.trans (congrArg some hr_.out)) (by simp)
      · rw [if_neg c8] at H
        have c8b0 : (t148 == (Int.tmod (wrap64 (a0)) 8)) = false := beq_eq_false_iff_ne.mpr c8
        have c8b1 : (t148 != (Int.tmod (wrap64 (a0)) 8)) = true := bne_iff_ne.mpr c8
        exact absurd (H.trans (congrArg some hr_.out)) (by simp)
    · rw [if_neg c6] at H
      have c6b0 : (t146 == t147) = false := by simpa using c6
      (try (have c6b1 : decide (t146 = t147) = false := by simpa using c6))
      (try (have c6b2 : (t146 == t147) = false := by simpa using c6))
      (try (have c6b3 : ¬ (t146 = t147) := by simpa using c6))
      clear c6
      exact absurd (H.trans (congrArg some hr_.out)) (by simp)
  · replace c3 := Bool.eq_false_iff.mpr c3
    subst c3
    have H1 : (some false) = some r := by rw [if_neg (show ¬ (false = true) by decide)] at H; exact H
    clear H
    have H := H1
    clear H1
    exact absurd (H.trans (congrArg some hr_.out)) (by simp)

/-- THE ONE PURE STATEMENT of posternlaw02_InsnOps: yours. -/
def posternlaw02_InsnOps.Pure : Prop := ∀ (a0 : Int), (Lit.int .u8 a0).wf = true → ∃ k, posternlaw02_InsnOps.f k a0 = some true
theorem posternlaw02_InsnOps.walk (P : posternlaw02_InsnOps.Pure) (a0 : Int) (w : World) (w0 : (Lit.int .u8 a0).wf = true) :
    Calls Try.prog 4 #[.int .u8 a0] w fun e w' => e = .returned (.bool true) ∧ Below w.heap.size w w' := by
  obtain ⟨k, h⟩ := P a0 w0
  refine (posternlaw02_InsnOps.calls k a0 true w ⟨rfl⟩ h).mono ?_
  rintro e w' ⟨rfl, hd⟩
  exact ⟨rfl, hd⟩

end Go.Proofs.Ytpkgegklpbholaa.PInsnOps
