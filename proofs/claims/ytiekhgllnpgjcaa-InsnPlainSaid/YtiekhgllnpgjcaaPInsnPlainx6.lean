-- Written by a program of this session (a variant of the print), for this claim. Lean checks it.
import Derived.Test.YtiekhgllnpgjcaaPInsnPlainx0
namespace Go.Proofs.Ytiekhgllnpgjcaa.PInsnPlain
open Go.RowKit Go.Proofs.YtiekhgllnpgjcaaW.PrintWords Go.Proofs.YtiekhgllnpgjcaaW.PrintLast Go.Proofs.YtiekhgllnpgjcaaW.PrintMore
attribute [local go_sem] max2_int min2_int max_two min_two max_three min_three max_four min_four   -- for this text's walks alone
attribute [local go_sem high] Go.Proofs.Ytiekhgllnpgjcaa.NotLaw.not_u64 Go.Proofs.Ytiekhgllnpgjcaa.NotLaw.not_u32 Go.Proofs.Ytiekhgllnpgjcaa.NotLaw.not_u16 Go.Proofs.Ytiekhgllnpgjcaa.NotLaw.not_u8
set_option linter.unusedVariables false
set_option linter.unusedSimpArgs false

/-! ### posternref02_Known: function 18 -/
mutual
def posternref02_Known.j0 : Nat → Int → Int → Bool → Option (Bool)
  | 0, _, _, _ => none
  | k + 1, x0, x6, x11 => if x11 = true then (if (wrap64 (Int.tdiv x0 8)) = 12 then (some true) else (if (wrap64 (Int.tdiv x0 8)) = 13 then (some true) else (if (wrap64 (Int.tdiv x0 8)) = 14 then (some true) else (some ((wrap64 (Int.tdiv x0 8)) == 15))))) else (if x6 = 4 then (posternref02_Known.j1 k x0 (x6 == 4)) else (posternref02_Known.j1 k x0 (x6 == 7)))
def posternref02_Known.j1 : Nat → Int → Bool → Option (Bool)
  | 0, _, _ => none
  | k + 1, x0, x33 => if x33 = true then (if (wrap64 (Int.tdiv x0 16)) ≤ 12 then (if (wrap64 (Int.tdiv x0 16)) = 8 then (some ((Int.tmod (wrap64 (Int.tdiv x0 8)) 2) == 0)) else (some true)) else (some false)) else (if (wrap64 (Int.tdiv x0 16)) ≥ 1 then (if (wrap64 (Int.tdiv x0 16)) ≤ 7 then (some true) else (if (wrap64 (Int.tdiv x0 16)) ≥ 10 then (if (wrap64 (Int.tdiv x0 16)) ≤ 13 then (some true) else (if x0 = 5 then (some true) else (if x0 = 133 then (some true) else (some (x0 == 149))))) else (if x0 = 5 then (some true) else (if x0 = 133 then (some true) else (some (x0 == 149)))))) else (if (wrap64 (Int.tdiv x0 16)) ≥ 10 then (if (wrap64 (Int.tdiv x0 16)) ≤ 13 then (some true) else (if x0 = 5 then (some true) else (if x0 = 133 then (some true) else (some (x0 == 149))))) else (if x0 = 5 then (some true) else (if x0 = 133 then (some true) else (some (x0 == 149))))))
end
def posternref02_Known.f (k : Nat) (a0 : Int) : Option (Bool) := if (Int.tmod a0 8) = 0 then (some (a0 == 24)) else (if (Int.tmod a0 8) = 1 then (posternref02_Known.j0 k a0 (Int.tmod a0 8) ((Int.tmod a0 8) == 1)) else (if (Int.tmod a0 8) = 2 then (posternref02_Known.j0 k a0 (Int.tmod a0 8) ((Int.tmod a0 8) == 2)) else (posternref02_Known.j0 k a0 (Int.tmod a0 8) ((Int.tmod a0 8) == 3))))
theorem posternref02_Known.mono_l : ∀ k, (∀ y0 y1 y2, LeO (posternref02_Known.j0 k y0 y1 y2) (posternref02_Known.j0 (k + 1) y0 y1 y2)) ∧ (∀ y0 y1, LeO (posternref02_Known.j1 k y0 y1) (posternref02_Known.j1 (k + 1) y0 y1))
  | 0 => ⟨fun _ _ _ r h => by simp [posternref02_Known.j0] at h, fun _ _ r h => by simp [posternref02_Known.j1] at h⟩
  | k + 1 => by
    obtain ⟨ih0, ih1⟩ := posternref02_Known.mono_l k
    refine ⟨?_, ?_⟩
    · intro y0 y1 y2
      unfold posternref02_Known.j0
      repeat' first
      | (with_reducible exact ih0 _ _ _)
      | (with_reducible exact ih1 _ _)
      | (with_reducible exact LeO.refl _)
      | (with_reducible exact LeO.none _)
      | (with_reducible refine LeO.ite ?_ ?_)
      | (with_reducible refine LeO.bind ?_ (fun _ => ?_))
      | exact ih0 _ _ _
      | exact ih1 _ _
      | exact LeO.none _
      | refine LeO.ite ?_ ?_
      | refine LeO.bind ?_ (fun _ => ?_)
    · intro y0 y1
      unfold posternref02_Known.j1
      repeat' first
      | (with_reducible exact ih0 _ _ _)
      | (with_reducible exact ih1 _ _)
      | (with_reducible exact LeO.refl _)
      | (with_reducible exact LeO.none _)
      | (with_reducible refine LeO.ite ?_ ?_)
      | (with_reducible refine LeO.bind ?_ (fun _ => ?_))
      | exact ih0 _ _ _
      | exact ih1 _ _
      | exact LeO.none _
      | refine LeO.ite ?_ ?_
      | refine LeO.bind ?_ (fun _ => ?_)
theorem posternref02_Known.mono : ∀ a0 k, LeO (posternref02_Known.f k a0) (posternref02_Known.f (k + 1) a0) := by
  intro a0 k
  obtain ⟨ih0, ih1⟩ := posternref02_Known.mono_l k
  unfold posternref02_Known.f
  repeat' first
      | (with_reducible exact ih0 _ _ _)
      | (with_reducible exact ih1 _ _)
      | (with_reducible exact LeO.refl _)
      | (with_reducible exact LeO.none _)
      | (with_reducible refine LeO.ite ?_ ?_)
      | (with_reducible refine LeO.bind ?_ (fun _ => ?_))
      | exact ih0 _ _ _
      | exact ih1 _ _
      | exact LeO.none _
      | refine LeO.ite ?_ ?_
      | refine LeO.bind ?_ (fun _ => ?_)
set_option maxHeartbeats 8000000 in
set_option maxRecDepth 100000 in
theorem posternref02_Known.calls (k : Nat) (a0 : Int) (r : Bool) (w : World) (h : posternref02_Known.f k a0 = some r) :
    Calls Try.prog 18 #[.int .i64 a0] w fun e w' => e = .returned (.bool r) ∧ Drawn0 w w' := by
  have H : (if (Int.tmod a0 8) = 0 then (some (a0 == 24)) else (if (Int.tmod a0 8) = 1 then (posternref02_Known.j0 k a0 (Int.tmod a0 8) ((Int.tmod a0 8) == 1)) else (if (Int.tmod a0 8) = 2 then (posternref02_Known.j0 k a0 (Int.tmod a0 8) ((Int.tmod a0 8) == 2)) else (posternref02_Known.j0 k a0 (Int.tmod a0 8) ((Int.tmod a0 8) == 3))))) = some r := h
  clear h
  by_cases c2 : (Int.tmod a0 8) = 0
  · rw [if_pos c2] at H
    have c2b0 : ((Int.tmod a0 8) == 0) = true := beq_iff_eq.mpr c2
    have c2b1 : ((Int.tmod a0 8) != 0) = false := bne_eq_false_iff_eq.mpr c2
    clear c2
    obtain rfl := Option.some.inj H
    go_enter Try.func18, Try.ntmps18
    go_wp2
    go_ret
    exact ⟨by first | rfl | (simp; done) | (simp [*]; done), by repeat (first | exact Drawn0.refl _ | apply Drawn0.step)⟩
  · rw [if_neg c2] at H
    have c2b0 : ((Int.tmod a0 8) == 0) = false := beq_eq_false_iff_ne.mpr c2
    have c2b1 : ((Int.tmod a0 8) != 0) = true := bne_iff_ne.mpr c2
    have HC3 := Aside0.mk H
    clear H
    go_enter Try.func18, Try.ntmps18
    go_upto_if 11 with (fail)
    go_cut [11] (fun v11 wc => ∃ (kq : Nat) (x11_2 : Bool), v11 = .bool x11_2 ∧ Aside0 (posternref02_Known.j0 kq a0 (Int.tmod a0 8) x11_2 = some r) ∧ Aside0 (kq ≤ k) ∧ Drawn0 w wc)
    case first =>
      have H := HC3.out
      clear HC3
      by_cases c4 : (Int.tmod a0 8) = 1
      · rw [if_pos c4] at H
        have c4b0 : ((Int.tmod a0 8) == 1) = true := beq_iff_eq.mpr c4
        have c4b1 : ((Int.tmod a0 8) != 1) = false := bne_eq_false_iff_eq.mpr c4
        clear c4
        (first | rw [c4b0] | (simp only [i64_w, i32_w]; rw [c4b0]) | skip)
        have H' := Aside0.mk H
        clear H
        go_wp2
        go_meet
        case rel => exact ⟨_, (((Int.tmod a0 8) == 1)), (by first | rfl | (simp; done) | (simp [*]; done)), H', ⟨by first | omega | exact Nat.le_refl _⟩, by repeat (first | exact Drawn0.refl _ | apply Drawn0.step)⟩
      · rw [if_neg c4] at H
        have c4b0 : ((Int.tmod a0 8) == 1) = false := beq_eq_false_iff_ne.mpr c4
        have c4b1 : ((Int.tmod a0 8) != 1) = true := bne_iff_ne.mpr c4
        (first | rw [c4b0] | (simp only [i64_w, i32_w]; rw [c4b0]) | skip)
        by_cases c5 : (Int.tmod a0 8) = 2
        · rw [if_pos c5] at H
          have c5b0 : ((Int.tmod a0 8) == 2) = true := beq_iff_eq.mpr c5
          have c5b1 : ((Int.tmod a0 8) != 2) = false := bne_eq_false_iff_eq.mpr c5
          clear c5
          have H' := Aside0.mk H
          clear H
          go_wp2
          go_meet
          case rel => exact ⟨_, (((Int.tmod a0 8) == 2)), (by first | rfl | (simp; done) | (simp [*]; done)), H', ⟨by first | omega | exact Nat.le_refl _⟩, by repeat (first | exact Drawn0.refl _ | apply Drawn0.step)⟩
        · rw [if_neg c5] at H
          have c5b0 : ((Int.tmod a0 8) == 2) = false := beq_eq_false_iff_ne.mpr c5
          have c5b1 : ((Int.tmod a0 8) != 2) = true := bne_iff_ne.mpr c5
          have H' := Aside0.mk H
          clear H
          go_wp2
          go_meet
          case rel => exact ⟨_, (((Int.tmod a0 8) == 3)), (by first | rfl | (simp; done) | (simp [*]; done)), H', ⟨by first | omega | exact Nat.le_refl _⟩, by repeat (first | exact Drawn0.refl _ | apply Drawn0.step)⟩
    case rest =>
      clear HC3
      try clear c1
      try clear c2
      try clear c2b0
      try clear c2b1
      try clear p2
      try clear c4
      try clear c4b0
      try clear c4b1
      try clear c5
      try clear c5b0
      try clear c5b1
      obtain ⟨kq, x11_2, rfl, HA, HJ2, ⟨mc2, rfl⟩⟩ := hcut
      cases kq with
      | zero => exact absurd HA.out (by simp [posternref02_Known.j0])
      | succ kj2 =>
        have H := HA.out
        clear HA
        simp only [posternref02_Known.j0] at H
        by_cases c6 : x11_2 = true
        · subst c6
          have H1 : (if (wrap64 (Int.tdiv a0 8)) = 12 then (some true) else (if (wrap64 (Int.tdiv a0 8)) = 13 then (some true) else (if (wrap64 (Int.tdiv a0 8)) = 14 then (some true) else (some ((wrap64 (Int.tdiv a0 8)) == 15))))) = some r := by rw [if_pos rfl] at H; exact H
          clear H
          have H := H1
          clear H1
          by_cases c7 : (wrap64 (Int.tdiv a0 8)) = 12
          · rw [if_pos c7] at H
            have c7b0 : ((wrap64 (Int.tdiv a0 8)) == 12) = true := beq_iff_eq.mpr c7
            have c7b1 : ((wrap64 (Int.tdiv a0 8)) != 12) = false := bne_eq_false_iff_eq.mpr c7
            clear c7
            obtain rfl := Option.some.inj H
            go_wp2
            go_ret
            exact ⟨by first | rfl | (simp; done) | (simp [*]; done), by repeat (first | exact Drawn0.refl _ | apply Drawn0.step)⟩
          · rw [if_neg c7] at H
            have c7b0 : ((wrap64 (Int.tdiv a0 8)) == 12) = false := beq_eq_false_iff_ne.mpr c7
            have c7b1 : ((wrap64 (Int.tdiv a0 8)) != 12) = true := bne_iff_ne.mpr c7
            by_cases c8 : (wrap64 (Int.tdiv a0 8)) = 13
            · rw [if_pos c8] at H
              have c8b0 : ((wrap64 (Int.tdiv a0 8)) == 13) = true := beq_iff_eq.mpr c8
              have c8b1 : ((wrap64 (Int.tdiv a0 8)) != 13) = false := bne_eq_false_iff_eq.mpr c8
              clear c8
              obtain rfl := Option.some.inj H
              go_wp2
              go_ret
              exact ⟨by first | rfl | (simp; done) | (simp [*]; done), by repeat (first | exact Drawn0.refl _ | apply Drawn0.step)⟩
            · rw [if_neg c8] at H
              have c8b0 : ((wrap64 (Int.tdiv a0 8)) == 13) = false := beq_eq_false_iff_ne.mpr c8
              have c8b1 : ((wrap64 (Int.tdiv a0 8)) != 13) = true := bne_iff_ne.mpr c8
              by_cases c9 : (wrap64 (Int.tdiv a0 8)) = 14
              · rw [if_pos c9] at H
                have c9b0 : ((wrap64 (Int.tdiv a0 8)) == 14) = true := beq_iff_eq.mpr c9
                have c9b1 : ((wrap64 (Int.tdiv a0 8)) != 14) = false := bne_eq_false_iff_eq.mpr c9
                clear c9
                obtain rfl := Option.some.inj H
                go_wp2
                go_ret
                exact ⟨by first | rfl | (simp; done) | (simp [*]; done), by repeat (first | exact Drawn0.refl _ | apply Drawn0.step)⟩
              · rw [if_neg c9] at H
                have c9b0 : ((wrap64 (Int.tdiv a0 8)) == 14) = false := beq_eq_false_iff_ne.mpr c9
                have c9b1 : ((wrap64 (Int.tdiv a0 8)) != 14) = true := bne_iff_ne.mpr c9
                obtain rfl := Option.some.inj H
                go_wp2
                go_ret
                exact ⟨by first | rfl | (simp; done) | (simp [*]; done), by repeat (first | exact Drawn0.refl _ | apply Drawn0.step)⟩
        · replace c6 := Bool.eq_false_iff.mpr c6
          subst c6
          have H1 : (if (Int.tmod a0 8) = 4 then (posternref02_Known.j1 kj2 a0 ((Int.tmod a0 8) == 4)) else (posternref02_Known.j1 kj2 a0 ((Int.tmod a0 8) == 7))) = some r := by rw [if_neg (show ¬ (false = true) by decide)] at H; exact H
          clear H
          have H := H1
          clear H1
          have HC10 := Aside0.mk H
          clear H
          go_upto_if 33 with (fail)
          go_cut [33] (fun v33 wc => ∃ (kq : Nat) (x33_9 : Bool), v33 = .bool x33_9 ∧ Aside0 (posternref02_Known.j1 kq a0 x33_9 = some r) ∧ Aside0 (kq ≤ kj2) ∧ Drawn0 w wc)
          case first =>
            have H := HC10.out
            clear HC10
            by_cases c11 : (Int.tmod a0 8) = 4
            · rw [if_pos c11] at H
              have c11b0 : ((Int.tmod a0 8) == 4) = true := beq_iff_eq.mpr c11
              have c11b1 : ((Int.tmod a0 8) != 4) = false := bne_eq_false_iff_eq.mpr c11
              clear c11
              (first | rw [c11b0] | (simp only [i64_w, i32_w]; rw [c11b0]) | skip)
              have H' := Aside0.mk H
              clear H
              go_wp2
              go_meet
              case rel => exact ⟨_, (((Int.tmod a0 8) == 4)), (by first | rfl | (simp; done) | (simp [*]; done)), H', ⟨by have := HJ2.out; first | omega | exact Nat.le_refl _⟩, by repeat (first | exact Drawn0.refl _ | apply Drawn0.step)⟩
            · rw [if_neg c11] at H
              have c11b0 : ((Int.tmod a0 8) == 4) = false := beq_eq_false_iff_ne.mpr c11
              have c11b1 : ((Int.tmod a0 8) != 4) = true := bne_iff_ne.mpr c11
              (first | rw [c11b0] | (simp only [i64_w, i32_w]; rw [c11b0]) | skip)
              have H' := Aside0.mk H
              clear H
              go_wp2
              go_meet
              case rel => exact ⟨_, (((Int.tmod a0 8) == 7)), (by first | rfl | (simp; done) | (simp [*]; done)), H', ⟨by have := HJ2.out; first | omega | exact Nat.le_refl _⟩, by repeat (first | exact Drawn0.refl _ | apply Drawn0.step)⟩
          case rest =>
            clear HC10
            try clear c1
            try clear c2
            try clear c2b0
            try clear c2b1
            try clear p2
            try clear c4
            try clear c4b0
            try clear c4b1
            try clear c5
            try clear c5b0
            try clear c5b1
            try clear c6
            try clear p6
            try clear c7
            try clear c7b0
            try clear c7b1
            try clear c8
            try clear c8b0
            try clear c8b1
            try clear c9
            try clear c9b0
            try clear c9b1
            try clear c11
            try clear c11b0
            try clear c11b1
            try clear p2
            obtain ⟨kq, x33_9, rfl, HA, HJ9, ⟨mc9, rfl⟩⟩ := hcut
            cases kq with
            | zero => exact absurd HA.out (by simp [posternref02_Known.j1])
            | succ kj9 =>
              have H := HA.out
              clear HA
              simp only [posternref02_Known.j1] at H
              by_cases c12 : x33_9 = true
              · subst c12
                have H1 : (if (wrap64 (Int.tdiv a0 16)) ≤ 12 then (if (wrap64 (Int.tdiv a0 16)) = 8 then (some ((Int.tmod (wrap64 (Int.tdiv a0 8)) 2) == 0)) else (some true)) else (some false)) = some r := by rw [if_pos rfl] at H; exact H
                clear H
                have H := H1
                clear H1
                by_cases c13 : (wrap64 (Int.tdiv a0 16)) ≤ 12
                · rw [if_pos c13] at H
                  have c13b0 : decide ((wrap64 (Int.tdiv a0 16)) ≤ 12) = true := decide_eq_true c13
                  clear c13
                  by_cases c14 : (wrap64 (Int.tdiv a0 16)) = 8
                  · rw [if_pos c14] at H
                    have c14b0 : ((wrap64 (Int.tdiv a0 16)) == 8) = true := beq_iff_eq.mpr c14
                    have c14b1 : ((wrap64 (Int.tdiv a0 16)) != 8) = false := bne_eq_false_iff_eq.mpr c14
                    clear c14
                    obtain rfl := Option.some.inj H
                    go_wp2
                    go_ret
                    exact ⟨by first | rfl | (simp; done) | (simp [*]; done), by repeat (first | exact Drawn0.refl _ | apply Drawn0.step)⟩
                  · rw [if_neg c14] at H
                    have c14b0 : ((wrap64 (Int.tdiv a0 16)) == 8) = false := beq_eq_false_iff_ne.mpr c14
                    have c14b1 : ((wrap64 (Int.tdiv a0 16)) != 8) = true := bne_iff_ne.mpr c14
                    obtain rfl := Option.some.inj H
                    go_wp2
                    go_ret
                    exact ⟨by first | rfl | (simp; done) | (simp [*]; done), by repeat (first | exact Drawn0.refl _ | apply Drawn0.step)⟩
                · rw [if_neg c13] at H
                  have c13b0 : decide ((wrap64 (Int.tdiv a0 16)) ≤ 12) = false := decide_eq_false c13
                  clear c13
                  obtain rfl := Option.some.inj H
                  go_wp2
                  go_ret
                  exact ⟨by first | rfl | (simp; done) | (simp [*]; done), by repeat (first | exact Drawn0.refl _ | apply Drawn0.step)⟩
              · replace c12 := Bool.eq_false_iff.mpr c12
                subst c12
                have H1 : (if (wrap64 (Int.tdiv a0 16)) ≥ 1 then (if (wrap64 (Int.tdiv a0 16)) ≤ 7 then (some true) else (if (wrap64 (Int.tdiv a0 16)) ≥ 10 then (if (wrap64 (Int.tdiv a0 16)) ≤ 13 then (some true) else (if a0 = 5 then (some true) else (if a0 = 133 then (some true) else (some (a0 == 149))))) else (if a0 = 5 then (some true) else (if a0 = 133 then (some true) else (some (a0 == 149)))))) else (if (wrap64 (Int.tdiv a0 16)) ≥ 10 then (if (wrap64 (Int.tdiv a0 16)) ≤ 13 then (some true) else (if a0 = 5 then (some true) else (if a0 = 133 then (some true) else (some (a0 == 149))))) else (if a0 = 5 then (some true) else (if a0 = 133 then (some true) else (some (a0 == 149)))))) = some r := by rw [if_neg (show ¬ (false = true) by decide)] at H; exact H
                clear H
                have H := H1
                clear H1
                by_cases c15 : (wrap64 (Int.tdiv a0 16)) ≥ 1
                · rw [if_pos c15] at H
                  have c15b0 : decide (1 ≤ (wrap64 (Int.tdiv a0 16))) = true := decide_eq_true c15
                  clear c15
                  by_cases c16 : (wrap64 (Int.tdiv a0 16)) ≤ 7
                  · rw [if_pos c16] at H
                    have c16b0 : decide ((wrap64 (Int.tdiv a0 16)) ≤ 7) = true := decide_eq_true c16
                    clear c16
                    obtain rfl := Option.some.inj H
                    go_wp2
                    go_ret
                    exact ⟨by first | rfl | (simp; done) | (simp [*]; done), by repeat (first | exact Drawn0.refl _ | apply Drawn0.step)⟩
                  · rw [if_neg c16] at H
                    have c16b0 : decide ((wrap64 (Int.tdiv a0 16)) ≤ 7) = false := decide_eq_false c16
                    clear c16
                    by_cases c17 : (wrap64 (Int.tdiv a0 16)) ≥ 10
                    · rw [if_pos c17] at H
                      have c17b0 : decide (10 ≤ (wrap64 (Int.tdiv a0 16))) = true := decide_eq_true c17
                      clear c17
                      by_cases c18 : (wrap64 (Int.tdiv a0 16)) ≤ 13
                      · rw [if_pos c18] at H
                        have c18b0 : decide ((wrap64 (Int.tdiv a0 16)) ≤ 13) = true := decide_eq_true c18
                        clear c18
                        obtain rfl := Option.some.inj H
                        go_wp2
                        go_ret
                        exact ⟨by first | rfl | (simp; done) | (simp [*]; done), by repeat (first | exact Drawn0.refl _ | apply Drawn0.step)⟩
                      · rw [if_neg c18] at H
                        have c18b0 : decide ((wrap64 (Int.tdiv a0 16)) ≤ 13) = false := decide_eq_false c18
                        clear c18
                        by_cases c19 : a0 = 5
                        · rw [if_pos c19] at H
                          have c19b0 : (a0 == 5) = true := beq_iff_eq.mpr c19
                          have c19b1 : (a0 != 5) = false := bne_eq_false_iff_eq.mpr c19
                          clear c19
                          obtain rfl := Option.some.inj H
                          go_wp2
                          go_ret
                          exact ⟨by first | rfl | (simp; done) | (simp [*]; done), by repeat (first | exact Drawn0.refl _ | apply Drawn0.step)⟩
                        · rw [if_neg c19] at H
                          have c19b0 : (a0 == 5) = false := beq_eq_false_iff_ne.mpr c19
                          have c19b1 : (a0 != 5) = true := bne_iff_ne.mpr c19
                          by_cases c20 : a0 = 133
                          · rw [if_pos c20] at H
                            have c20b0 : (a0 == 133) = true := beq_iff_eq.mpr c20
                            have c20b1 : (a0 != 133) = false := bne_eq_false_iff_eq.mpr c20
                            clear c20
                            obtain rfl := Option.some.inj H
                            go_wp2
                            go_ret
                            exact ⟨by first | rfl | (simp; done) | (simp [*]; done), by repeat (first | exact Drawn0.refl _ | apply Drawn0.step)⟩
                          · rw [if_neg c20] at H
                            have c20b0 : (a0 == 133) = false := beq_eq_false_iff_ne.mpr c20
                            have c20b1 : (a0 != 133) = true := bne_iff_ne.mpr c20
                            obtain rfl := Option.some.inj H
                            go_wp2
                            go_ret
                            exact ⟨by first | rfl | (simp; done) | (simp [*]; done), by repeat (first | exact Drawn0.refl _ | apply Drawn0.step)⟩
                    · rw [if_neg c17] at H
                      have c17b0 : decide (10 ≤ (wrap64 (Int.tdiv a0 16))) = false := decide_eq_false c17
                      clear c17
                      by_cases c21 : a0 = 5
                      · rw [if_pos c21] at H
                        have c21b0 : (a0 == 5) = true := beq_iff_eq.mpr c21
                        have c21b1 : (a0 != 5) = false := bne_eq_false_iff_eq.mpr c21
                        clear c21
                        obtain rfl := Option.some.inj H
                        go_wp2
                        go_ret
                        exact ⟨by first | rfl | (simp; done) | (simp [*]; done), by repeat (first | exact Drawn0.refl _ | apply Drawn0.step)⟩
                      · rw [if_neg c21] at H
                        have c21b0 : (a0 == 5) = false := beq_eq_false_iff_ne.mpr c21
                        have c21b1 : (a0 != 5) = true := bne_iff_ne.mpr c21
                        by_cases c22 : a0 = 133
                        · rw [if_pos c22] at H
                          have c22b0 : (a0 == 133) = true := beq_iff_eq.mpr c22
                          have c22b1 : (a0 != 133) = false := bne_eq_false_iff_eq.mpr c22
                          clear c22
                          obtain rfl := Option.some.inj H
                          go_wp2
                          go_ret
                          exact ⟨by first | rfl | (simp; done) | (simp [*]; done), by repeat (first | exact Drawn0.refl _ | apply Drawn0.step)⟩
                        · rw [if_neg c22] at H
                          have c22b0 : (a0 == 133) = false := beq_eq_false_iff_ne.mpr c22
                          have c22b1 : (a0 != 133) = true := bne_iff_ne.mpr c22
                          obtain rfl := Option.some.inj H
                          go_wp2
                          go_ret
                          exact ⟨by first | rfl | (simp; done) | (simp [*]; done), by repeat (first | exact Drawn0.refl _ | apply Drawn0.step)⟩
                · rw [if_neg c15] at H
                  have c15b0 : decide (1 ≤ (wrap64 (Int.tdiv a0 16))) = false := decide_eq_false c15
                  clear c15
                  by_cases c23 : (wrap64 (Int.tdiv a0 16)) ≥ 10
                  · rw [if_pos c23] at H
                    have c23b0 : decide (10 ≤ (wrap64 (Int.tdiv a0 16))) = true := decide_eq_true c23
                    clear c23
                    by_cases c24 : (wrap64 (Int.tdiv a0 16)) ≤ 13
                    · rw [if_pos c24] at H
                      have c24b0 : decide ((wrap64 (Int.tdiv a0 16)) ≤ 13) = true := decide_eq_true c24
                      clear c24
                      obtain rfl := Option.some.inj H
                      go_wp2
                      go_ret
                      exact ⟨by first | rfl | (simp; done) | (simp [*]; done), by repeat (first | exact Drawn0.refl _ | apply Drawn0.step)⟩
                    · rw [if_neg c24] at H
                      have c24b0 : decide ((wrap64 (Int.tdiv a0 16)) ≤ 13) = false := decide_eq_false c24
                      clear c24
                      by_cases c25 : a0 = 5
                      · rw [if_pos c25] at H
                        have c25b0 : (a0 == 5) = true := beq_iff_eq.mpr c25
                        have c25b1 : (a0 != 5) = false := bne_eq_false_iff_eq.mpr c25
                        clear c25
                        obtain rfl := Option.some.inj H
                        go_wp2
                        go_ret
                        exact ⟨by first | rfl | (simp; done) | (simp [*]; done), by repeat (first | exact Drawn0.refl _ | apply Drawn0.step)⟩
                      · rw [if_neg c25] at H
                        have c25b0 : (a0 == 5) = false := beq_eq_false_iff_ne.mpr c25
                        have c25b1 : (a0 != 5) = true := bne_iff_ne.mpr c25
                        by_cases c26 : a0 = 133
                        · rw [if_pos c26] at H
                          have c26b0 : (a0 == 133) = true := beq_iff_eq.mpr c26
                          have c26b1 : (a0 != 133) = false := bne_eq_false_iff_eq.mpr c26
                          clear c26
                          obtain rfl := Option.some.inj H
                          go_wp2
                          go_ret
                          exact ⟨by first | rfl | (simp; done) | (simp [*]; done), by repeat (first | exact Drawn0.refl _ | apply Drawn0.step)⟩
                        · rw [if_neg c26] at H
                          have c26b0 : (a0 == 133) = false := beq_eq_false_iff_ne.mpr c26
                          have c26b1 : (a0 != 133) = true := bne_iff_ne.mpr c26
                          obtain rfl := Option.some.inj H
                          go_wp2
                          go_ret
                          exact ⟨by first | rfl | (simp; done) | (simp [*]; done), by repeat (first | exact Drawn0.refl _ | apply Drawn0.step)⟩
                  · rw [if_neg c23] at H
                    have c23b0 : decide (10 ≤ (wrap64 (Int.tdiv a0 16))) = false := decide_eq_false c23
                    clear c23
                    by_cases c27 : a0 = 5
                    · rw [if_pos c27] at H
                      have c27b0 : (a0 == 5) = true := beq_iff_eq.mpr c27
                      have c27b1 : (a0 != 5) = false := bne_eq_false_iff_eq.mpr c27
                      clear c27
                      obtain rfl := Option.some.inj H
                      go_wp2
                      go_ret
                      exact ⟨by first | rfl | (simp; done) | (simp [*]; done), by repeat (first | exact Drawn0.refl _ | apply Drawn0.step)⟩
                    · rw [if_neg c27] at H
                      have c27b0 : (a0 == 5) = false := beq_eq_false_iff_ne.mpr c27
                      have c27b1 : (a0 != 5) = true := bne_iff_ne.mpr c27
                      by_cases c28 : a0 = 133
                      · rw [if_pos c28] at H
                        have c28b0 : (a0 == 133) = true := beq_iff_eq.mpr c28
                        have c28b1 : (a0 != 133) = false := bne_eq_false_iff_eq.mpr c28
                        clear c28
                        obtain rfl := Option.some.inj H
                        go_wp2
                        go_ret
                        exact ⟨by first | rfl | (simp; done) | (simp [*]; done), by repeat (first | exact Drawn0.refl _ | apply Drawn0.step)⟩
                      · rw [if_neg c28] at H
                        have c28b0 : (a0 == 133) = false := beq_eq_false_iff_ne.mpr c28
                        have c28b1 : (a0 != 133) = true := bne_iff_ne.mpr c28
                        obtain rfl := Option.some.inj H
                        go_wp2
                        go_ret
                        exact ⟨by first | rfl | (simp; done) | (simp [*]; done), by repeat (first | exact Drawn0.refl _ | apply Drawn0.step)⟩

/-! ### posternref02_Uses: function 44 -/
mutual
def posternref02_Uses.j0 : Nat → Int → Bool → Int → Bool → Option (Bool × Bool × Bool × Bool)
  | 0, _, _, _, _ => none
  | k + 1, x0, x3, x9, x13 => if x13 = true then (some (true, true, true, false)) else (if x9 = 2 then (some (true, false, true, true)) else (if x9 = 4 then (posternref02_Uses.j1 k x0 x3 (x9 == 4)) else (posternref02_Uses.j1 k x0 x3 (x9 == 7))))
def posternref02_Uses.j1 : Nat → Int → Bool → Bool → Option (Bool × Bool × Bool × Bool)
  | 0, _, _, _ => none
  | k + 1, x0, x3, x20 => if x20 = true then (if (wrap64 (Int.tdiv x0 16)) = 8 then (some (true, false, false, false)) else (some (true, x3, false, !x3))) else (if x0 = 5 then (some (false, false, true, false)) else (if x0 = 133 then (some (false, true, false, true)) else (if x0 = 149 then (some (false, false, false, false)) else (some (true, x3, true, !x3)))))
end
def posternref02_Uses.f (k : Nat) (a0 : Int) : Option (Bool × Bool × Bool × Bool) := if (Int.tmod a0 8) = 0 then (some (true, true, false, true)) else (if (Int.tmod a0 8) = 1 then (posternref02_Uses.j0 k a0 ((Int.tmod (wrap64 (Int.tdiv a0 8)) 2) == 1) (Int.tmod a0 8) ((Int.tmod a0 8) == 1)) else (posternref02_Uses.j0 k a0 ((Int.tmod (wrap64 (Int.tdiv a0 8)) 2) == 1) (Int.tmod a0 8) ((Int.tmod a0 8) == 3)))
theorem posternref02_Uses.mono_l : ∀ k, (∀ y0 y1 y2 y3, LeO (posternref02_Uses.j0 k y0 y1 y2 y3) (posternref02_Uses.j0 (k + 1) y0 y1 y2 y3)) ∧ (∀ y0 y1 y2, LeO (posternref02_Uses.j1 k y0 y1 y2) (posternref02_Uses.j1 (k + 1) y0 y1 y2))
  | 0 => ⟨fun _ _ _ _ r h => by simp [posternref02_Uses.j0] at h, fun _ _ _ r h => by simp [posternref02_Uses.j1] at h⟩
  | k + 1 => by
    obtain ⟨ih0, ih1⟩ := posternref02_Uses.mono_l k
    refine ⟨?_, ?_⟩
    · intro y0 y1 y2 y3
      unfold posternref02_Uses.j0
      repeat' first
      | (with_reducible exact ih0 _ _ _ _)
      | (with_reducible exact ih1 _ _ _)
      | (with_reducible exact LeO.refl _)
      | (with_reducible exact LeO.none _)
      | (with_reducible refine LeO.ite ?_ ?_)
      | (with_reducible refine LeO.bind ?_ (fun _ => ?_))
      | exact ih0 _ _ _ _
      | exact ih1 _ _ _
      | exact LeO.none _
      | refine LeO.ite ?_ ?_
      | refine LeO.bind ?_ (fun _ => ?_)
    · intro y0 y1 y2
      unfold posternref02_Uses.j1
      repeat' first
      | (with_reducible exact ih0 _ _ _ _)
      | (with_reducible exact ih1 _ _ _)
      | (with_reducible exact LeO.refl _)
      | (with_reducible exact LeO.none _)
      | (with_reducible refine LeO.ite ?_ ?_)
      | (with_reducible refine LeO.bind ?_ (fun _ => ?_))
      | exact ih0 _ _ _ _
      | exact ih1 _ _ _
      | exact LeO.none _
      | refine LeO.ite ?_ ?_
      | refine LeO.bind ?_ (fun _ => ?_)
theorem posternref02_Uses.mono : ∀ a0 k, LeO (posternref02_Uses.f k a0) (posternref02_Uses.f (k + 1) a0) := by
  intro a0 k
  obtain ⟨ih0, ih1⟩ := posternref02_Uses.mono_l k
  unfold posternref02_Uses.f
  repeat' first
      | (with_reducible exact ih0 _ _ _ _)
      | (with_reducible exact ih1 _ _ _)
      | (with_reducible exact LeO.refl _)
      | (with_reducible exact LeO.none _)
      | (with_reducible refine LeO.ite ?_ ?_)
      | (with_reducible refine LeO.bind ?_ (fun _ => ?_))
      | exact ih0 _ _ _ _
      | exact ih1 _ _ _
      | exact LeO.none _
      | refine LeO.ite ?_ ?_
      | refine LeO.bind ?_ (fun _ => ?_)
set_option maxHeartbeats 8000000 in
set_option maxRecDepth 100000 in
theorem posternref02_Uses.calls (k : Nat) (a0 : Int) (r1 : Bool) (r2 : Bool) (r3 : Bool) (r4 : Bool) (w : World) (h : posternref02_Uses.f k a0 = some (r1, r2, r3, r4)) :
    Calls Try.prog 44 #[.int .i64 a0] w fun e w' => e = .returned (.agg #[.bool r1, .bool r2, .bool r3, .bool r4]) ∧ Below w.heap.size w w' := by
  have hu76 := Try.underlying76
  have HB := Aside0.mk (Below.refl w.heap.size w)
  have H : (if (Int.tmod a0 8) = 0 then (some (true, true, false, true)) else (if (Int.tmod a0 8) = 1 then (posternref02_Uses.j0 k a0 ((Int.tmod (wrap64 (Int.tdiv a0 8)) 2) == 1) (Int.tmod a0 8) ((Int.tmod a0 8) == 1)) else (posternref02_Uses.j0 k a0 ((Int.tmod (wrap64 (Int.tdiv a0 8)) 2) == 1) (Int.tmod a0 8) ((Int.tmod a0 8) == 3)))) = some (r1, r2, r3, r4) := h
  clear h
  by_cases c2 : (Int.tmod a0 8) = 0
  · rw [if_pos c2] at H
    have c2b0 : ((Int.tmod a0 8) == 0) = true := beq_iff_eq.mpr c2
    have c2b1 : ((Int.tmod a0 8) != 0) = false := bne_eq_false_iff_eq.mpr c2
    clear c2
    simp only [Option.some.injEq, Prod.mk.injEq] at H
    obtain ⟨rfl, rfl, rfl, rfl⟩ := H
    go_enter Try.func44, Try.ntmps44
    go_wp2_with (first | ((with_reducible refine gate_dst (N := 2) rfl ?_); refine box_event ?hg (N := 2) ?hd (cs := #[.bool false, .bool false, .bool false, .bool false]) (t := 76) ?hr ?_; (case hd => rfl); (case hg => rfl); (case hr => first | (go_simp; done) | (go_simp; rfl)); intro gb158 hg w3 hbox hb; have n0_ := Aside0.mk (below_step (by repeat (first | (with_reducible first | exact HB.out | apply below_alloc | apply pw_below_drewN | apply below_drew1) | exact HB.out)) hb); have n1_ := Aside0.mk (hbox); have n2_ := Aside0.mk ((by rw [hg]; exact (below_size (by repeat (first | (with_reducible first | exact HB.out | apply below_alloc | apply pw_below_drewN | apply below_drew1) | exact HB.out))) : w.heap.size ≤ gb158)); have n3_ := Aside0.mk ((by rw [hg]; exact (below_size (by repeat (first | (with_reducible first | exact HB.out | apply below_alloc | apply pw_below_drewN | apply below_drew1) | exact HB.out))) : w.heap.size ≤ gb158)); clear HB; have HB := n0_; have BK158 := n1_; have GW158 := n2_; have GE158 := n3_; clear n0_ n1_ n2_ n3_; clear hb hbox hg; have hcz4_0 : w3.cell? ⟨gb158, 0, none⟩ = some (.bool false) := (blk_cell BK158.out 0).trans rfl; have hcz4_1 : w3.cell? ⟨gb158, 1, none⟩ = some (.bool false) := (blk_cell BK158.out 1).trans rfl; have hcz4_2 : w3.cell? ⟨gb158, 2, none⟩ = some (.bool false) := (blk_cell BK158.out 2).trans rfl; have hcz4_3 : w3.cell? ⟨gb158, 3, none⟩ = some (.bool false) := (blk_cell BK158.out 3).trans rfl; have hfz4_0 := blk_frozen BK158.out 0; have hfz4_1 := blk_frozen BK158.out 1; have hfz4_2 := blk_frozen BK158.out 2; have hfz4_3 := blk_frozen BK158.out 3))
    refine bodyPost_ret (results_cell_row rfl _ _ gb158 76 #[.bool true, .bool true, .bool false, .bool true] (0, 0) _ rfl (by (with_reducible repeat (first | refine blk_drewN ?_ _ | refine blk_drew ?_ | refine blk_alloc ?_ _)); refine blk_put (cs := #[.bool true, .bool true, .bool false, .bool false]) ?_ 3 _ rfl; (with_reducible repeat (first | refine blk_drewN ?_ _ | refine blk_drew ?_ | refine blk_alloc ?_ _)); refine blk_put (cs := #[.bool true, .bool true, .bool false, .bool false]) ?_ 2 _ rfl; (with_reducible repeat (first | refine blk_drewN ?_ _ | refine blk_drew ?_ | refine blk_alloc ?_ _)); refine blk_put (cs := #[.bool true, .bool false, .bool false, .bool false]) ?_ 1 _ rfl; (with_reducible repeat (first | refine blk_drewN ?_ _ | refine blk_drew ?_ | refine blk_alloc ?_ _)); refine blk_put (cs := #[.bool false, .bool false, .bool false, .bool false]) ?_ 0 _ rfl; (with_reducible repeat (first | refine blk_drewN ?_ _ | refine blk_drew ?_ | refine blk_alloc ?_ _)); exact BK158.out) Try.underlying76 rfl (by kernel_rfl)) rfl ?_
    exact ⟨by first | rfl | (simp [errW_none, errW_some] <;> rfl) | (simp [*, errW_none, errW_some] <;> rfl), by repeat (first | (with_reducible first | exact HB.out | apply below_alloc | apply pw_below_drewN | apply below_drew1 | refine below_set ?_ GE158.out) | exact HB.out)⟩
  · rw [if_neg c2] at H
    have c2b0 : ((Int.tmod a0 8) == 0) = false := beq_eq_false_iff_ne.mpr c2
    have c2b1 : ((Int.tmod a0 8) != 0) = true := bne_iff_ne.mpr c2
    have HC5 := Aside0.mk H
    clear H
    go_enter Try.func44, Try.ntmps44
    go_upto_if 13 with (first | ((with_reducible refine gate_dst (N := 2) rfl ?_); refine box_event ?hg (N := 2) ?hd (cs := #[.bool false, .bool false, .bool false, .bool false]) (t := 76) ?hr ?_; (case hd => rfl); (case hg => rfl); (case hr => first | (go_simp; done) | (go_simp; rfl)); intro gb158 hg w6 hbox hb; have n0_ := Aside0.mk (below_step (by repeat (first | (with_reducible first | exact HB.out | apply below_alloc | apply pw_below_drewN | apply below_drew1) | exact HB.out)) hb); have n1_ := Aside0.mk (hbox); have n2_ := Aside0.mk ((by rw [hg]; exact (below_size (by repeat (first | (with_reducible first | exact HB.out | apply below_alloc | apply pw_below_drewN | apply below_drew1) | exact HB.out))) : w.heap.size ≤ gb158)); have n3_ := Aside0.mk ((by rw [hg]; exact (below_size (by repeat (first | (with_reducible first | exact HB.out | apply below_alloc | apply pw_below_drewN | apply below_drew1) | exact HB.out))) : w.heap.size ≤ gb158)); clear HB; have HB := n0_; have BK158 := n1_; have GW158 := n2_; have GE158 := n3_; clear n0_ n1_ n2_ n3_; clear hb hbox hg))
    (try simp only [Act.put, List.setIfInBounds_toArray, List.set_cons_zero, List.set_cons_succ])
    go_cut [13] (fun v13 wc => ∃ (kq : Nat) (x13_4 : Bool), v13 = .bool x13_4 ∧ Aside0 (posternref02_Uses.j0 kq a0 ((Int.tmod (wrap64 (Int.tdiv a0 8)) 2) == 1) (Int.tmod a0 8) x13_4 = some (r1, r2, r3, r4)) ∧ Aside0 (kq ≤ k) ∧ Aside0 (wc.heap[gb158]? = some (.cells #[.bool false, .bool false, .bool false, .bool false] 76 (0, 0))) ∧ Aside0 (Below w.heap.size w wc))
    case first =>
      have H := HC5.out
      clear HC5
      by_cases c7 : (Int.tmod a0 8) = 1
      · rw [if_pos c7] at H
        have c7b0 : ((Int.tmod a0 8) == 1) = true := beq_iff_eq.mpr c7
        have c7b1 : ((Int.tmod a0 8) != 1) = false := bne_eq_false_iff_eq.mpr c7
        clear c7
        (first | rw [c7b0] | (simp only [i64_w, i32_w]; rw [c7b0]) | skip)
        have H' := Aside0.mk H
        clear H
        go_wp2
        go_meet
        case rel => exact ⟨_, (((Int.tmod a0 8) == 1)), (by first | rfl | (simp; done) | (simp [*]; done)), H', ⟨by first | omega | exact Nat.le_refl _⟩, ⟨by (with_reducible repeat (first | refine blk_drewN ?_ _ | refine blk_drew ?_ | refine blk_alloc ?_ _)); exact BK158.out⟩, ⟨by repeat (first | (with_reducible first | exact HB.out | apply below_alloc | apply pw_below_drewN | apply below_drew1 | refine below_set ?_ GE158.out) | exact HB.out)⟩⟩
      · rw [if_neg c7] at H
        have c7b0 : ((Int.tmod a0 8) == 1) = false := beq_eq_false_iff_ne.mpr c7
        have c7b1 : ((Int.tmod a0 8) != 1) = true := bne_iff_ne.mpr c7
        (first | rw [c7b0] | (simp only [i64_w, i32_w]; rw [c7b0]) | skip)
        have H' := Aside0.mk H
        clear H
        go_wp2
        go_meet
        case rel => exact ⟨_, (((Int.tmod a0 8) == 3)), (by first | rfl | (simp; done) | (simp [*]; done)), H', ⟨by first | omega | exact Nat.le_refl _⟩, ⟨by (with_reducible repeat (first | refine blk_drewN ?_ _ | refine blk_drew ?_ | refine blk_alloc ?_ _)); exact BK158.out⟩, ⟨by repeat (first | (with_reducible first | exact HB.out | apply below_alloc | apply pw_below_drewN | apply below_drew1 | refine below_set ?_ GE158.out) | exact HB.out)⟩⟩
    case rest =>
      clear HC5
      try clear c2
      try clear c2b0
      try clear c2b1
      try clear p2
      try clear c4
      try clear p6
      try clear c7
      try clear c7b0
      try clear c7b1
      try clear hcz4_0
      try clear hcz4_1
      try clear hcz4_2
      try clear hcz4_3
      try clear hfz4_0
      try clear hfz4_1
      try clear hfz4_2
      try clear hfz4_3
      obtain ⟨kq, x13_4, rfl, HA, HJ4, BK158, HB⟩ := hcut
      cases kq with
      | zero => exact absurd HA.out (by simp [posternref02_Uses.j0])
      | succ kj4 =>
        have H := HA.out
        clear HA
        simp only [posternref02_Uses.j0] at H
        by_cases c8 : x13_4 = true
        · subst c8
          have H1 : (some (true, true, true, false)) = some (r1, r2, r3, r4) := by rw [if_pos rfl] at H; exact H
          clear H
          have H := H1
          clear H1
          simp only [Option.some.injEq, Prod.mk.injEq] at H
          obtain ⟨rfl, rfl, rfl, rfl⟩ := H
          have hcz9_0 : wc.cell? ⟨gb158, 0, none⟩ = some (.bool false) := (blk_cell BK158.out 0).trans rfl
          have hcz9_1 : wc.cell? ⟨gb158, 1, none⟩ = some (.bool false) := (blk_cell BK158.out 1).trans rfl
          have hcz9_2 : wc.cell? ⟨gb158, 2, none⟩ = some (.bool false) := (blk_cell BK158.out 2).trans rfl
          have hcz9_3 : wc.cell? ⟨gb158, 3, none⟩ = some (.bool false) := (blk_cell BK158.out 3).trans rfl
          have hfz9_0 := blk_frozen BK158.out 0
          have hfz9_1 := blk_frozen BK158.out 1
          have hfz9_2 := blk_frozen BK158.out 2
          have hfz9_3 := blk_frozen BK158.out 3
          go_wp2
          refine bodyPost_ret (results_cell_row rfl _ _ gb158 76 #[.bool true, .bool true, .bool true, .bool false] (0, 0) _ rfl (by (with_reducible repeat (first | refine blk_drewN ?_ _ | refine blk_drew ?_ | refine blk_alloc ?_ _)); refine blk_put (cs := #[.bool true, .bool true, .bool true, .bool false]) ?_ 3 _ rfl; (with_reducible repeat (first | refine blk_drewN ?_ _ | refine blk_drew ?_ | refine blk_alloc ?_ _)); refine blk_put (cs := #[.bool true, .bool true, .bool false, .bool false]) ?_ 2 _ rfl; (with_reducible repeat (first | refine blk_drewN ?_ _ | refine blk_drew ?_ | refine blk_alloc ?_ _)); refine blk_put (cs := #[.bool true, .bool false, .bool false, .bool false]) ?_ 1 _ rfl; (with_reducible repeat (first | refine blk_drewN ?_ _ | refine blk_drew ?_ | refine blk_alloc ?_ _)); refine blk_put (cs := #[.bool false, .bool false, .bool false, .bool false]) ?_ 0 _ rfl; (with_reducible repeat (first | refine blk_drewN ?_ _ | refine blk_drew ?_ | refine blk_alloc ?_ _)); exact BK158.out) Try.underlying76 rfl (by kernel_rfl)) rfl ?_
          exact ⟨by first | rfl | (simp [errW_none, errW_some] <;> rfl) | (simp [*, errW_none, errW_some] <;> rfl), by repeat (first | (with_reducible first | exact HB.out | apply below_alloc | apply pw_below_drewN | apply below_drew1 | refine below_set ?_ GE158.out) | exact HB.out)⟩
        · replace c8 := Bool.eq_false_iff.mpr c8
          subst c8
          have H1 : (if (Int.tmod a0 8) = 2 then (some (true, false, true, true)) else (if (Int.tmod a0 8) = 4 then (posternref02_Uses.j1 kj4 a0 ((Int.tmod (wrap64 (Int.tdiv a0 8)) 2) == 1) ((Int.tmod a0 8) == 4)) else (posternref02_Uses.j1 kj4 a0 ((Int.tmod (wrap64 (Int.tdiv a0 8)) 2) == 1) ((Int.tmod a0 8) == 7)))) = some (r1, r2, r3, r4) := by rw [if_neg (show ¬ (false = true) by decide)] at H; exact H
          clear H
          have H := H1
          clear H1
          by_cases c10 : (Int.tmod a0 8) = 2
          · rw [if_pos c10] at H
            have c10b0 : ((Int.tmod a0 8) == 2) = true := beq_iff_eq.mpr c10
            have c10b1 : ((Int.tmod a0 8) != 2) = false := bne_eq_false_iff_eq.mpr c10
            clear c10
            simp only [Option.some.injEq, Prod.mk.injEq] at H
            obtain ⟨rfl, rfl, rfl, rfl⟩ := H
            have hcz11_0 : wc.cell? ⟨gb158, 0, none⟩ = some (.bool false) := (blk_cell BK158.out 0).trans rfl
            have hcz11_1 : wc.cell? ⟨gb158, 1, none⟩ = some (.bool false) := (blk_cell BK158.out 1).trans rfl
            have hcz11_2 : wc.cell? ⟨gb158, 2, none⟩ = some (.bool false) := (blk_cell BK158.out 2).trans rfl
            have hcz11_3 : wc.cell? ⟨gb158, 3, none⟩ = some (.bool false) := (blk_cell BK158.out 3).trans rfl
            have hfz11_0 := blk_frozen BK158.out 0
            have hfz11_1 := blk_frozen BK158.out 1
            have hfz11_2 := blk_frozen BK158.out 2
            have hfz11_3 := blk_frozen BK158.out 3
            go_wp2
            refine bodyPost_ret (results_cell_row rfl _ _ gb158 76 #[.bool true, .bool false, .bool true, .bool true] (0, 0) _ rfl (by (with_reducible repeat (first | refine blk_drewN ?_ _ | refine blk_drew ?_ | refine blk_alloc ?_ _)); refine blk_put (cs := #[.bool true, .bool false, .bool true, .bool false]) ?_ 3 _ rfl; (with_reducible repeat (first | refine blk_drewN ?_ _ | refine blk_drew ?_ | refine blk_alloc ?_ _)); refine blk_put (cs := #[.bool true, .bool false, .bool false, .bool false]) ?_ 2 _ rfl; (with_reducible repeat (first | refine blk_drewN ?_ _ | refine blk_drew ?_ | refine blk_alloc ?_ _)); refine blk_put (cs := #[.bool true, .bool false, .bool false, .bool false]) ?_ 1 _ rfl; (with_reducible repeat (first | refine blk_drewN ?_ _ | refine blk_drew ?_ | refine blk_alloc ?_ _)); refine blk_put (cs := #[.bool false, .bool false, .bool false, .bool false]) ?_ 0 _ rfl; (with_reducible repeat (first | refine blk_drewN ?_ _ | refine blk_drew ?_ | refine blk_alloc ?_ _)); exact BK158.out) Try.underlying76 rfl (by kernel_rfl)) rfl ?_
            exact ⟨by first | rfl | (simp [errW_none, errW_some] <;> rfl) | (simp [*, errW_none, errW_some] <;> rfl), by repeat (first | (with_reducible first | exact HB.out | apply below_alloc | apply pw_below_drewN | apply below_drew1 | refine below_set ?_ GE158.out) | exact HB.out)⟩
          · rw [if_neg c10] at H
            have c10b0 : ((Int.tmod a0 8) == 2) = false := beq_eq_false_iff_ne.mpr c10
            have c10b1 : ((Int.tmod a0 8) != 2) = true := bne_iff_ne.mpr c10
            have HC12 := Aside0.mk H
            clear H
            go_upto_if 20 with (fail)
            go_cut [20] (fun v20 wc => ∃ (kq : Nat) (x20_11 : Bool), v20 = .bool x20_11 ∧ Aside0 (posternref02_Uses.j1 kq a0 ((Int.tmod (wrap64 (Int.tdiv a0 8)) 2) == 1) x20_11 = some (r1, r2, r3, r4)) ∧ Aside0 (kq ≤ kj4) ∧ Aside0 (wc.heap[gb158]? = some (.cells #[.bool false, .bool false, .bool false, .bool false] 76 (0, 0))) ∧ Aside0 (Below w.heap.size w wc))
            case first =>
              have H := HC12.out
              clear HC12
              by_cases c13 : (Int.tmod a0 8) = 4
              · rw [if_pos c13] at H
                have c13b0 : ((Int.tmod a0 8) == 4) = true := beq_iff_eq.mpr c13
                have c13b1 : ((Int.tmod a0 8) != 4) = false := bne_eq_false_iff_eq.mpr c13
                clear c13
                (first | rw [c13b0] | (simp only [i64_w, i32_w]; rw [c13b0]) | skip)
                have H' := Aside0.mk H
                clear H
                go_wp2
                go_meet
                case rel => exact ⟨_, (((Int.tmod a0 8) == 4)), (by first | rfl | (simp; done) | (simp [*]; done)), H', ⟨by have := HJ4.out; first | omega | exact Nat.le_refl _⟩, ⟨by (with_reducible repeat (first | refine blk_drewN ?_ _ | refine blk_drew ?_ | refine blk_alloc ?_ _)); exact BK158.out⟩, ⟨by repeat (first | (with_reducible first | exact HB.out | apply below_alloc | apply pw_below_drewN | apply below_drew1 | refine below_set ?_ GE158.out) | exact HB.out)⟩⟩
              · rw [if_neg c13] at H
                have c13b0 : ((Int.tmod a0 8) == 4) = false := beq_eq_false_iff_ne.mpr c13
                have c13b1 : ((Int.tmod a0 8) != 4) = true := bne_iff_ne.mpr c13
                (first | rw [c13b0] | (simp only [i64_w, i32_w]; rw [c13b0]) | skip)
                have H' := Aside0.mk H
                clear H
                go_wp2
                go_meet
                case rel => exact ⟨_, (((Int.tmod a0 8) == 7)), (by first | rfl | (simp; done) | (simp [*]; done)), H', ⟨by have := HJ4.out; first | omega | exact Nat.le_refl _⟩, ⟨by (with_reducible repeat (first | refine blk_drewN ?_ _ | refine blk_drew ?_ | refine blk_alloc ?_ _)); exact BK158.out⟩, ⟨by repeat (first | (with_reducible first | exact HB.out | apply below_alloc | apply pw_below_drewN | apply below_drew1 | refine below_set ?_ GE158.out) | exact HB.out)⟩⟩
            case rest =>
              clear HC12
              try clear c1
              try clear c2
              try clear c2b0
              try clear c2b1
              try clear p2
              try clear c4
              try clear p6
              try clear c7
              try clear c7b0
              try clear c7b1
              try clear c8
              try clear c10
              try clear c10b0
              try clear c10b1
              try clear c13
              try clear c13b0
              try clear c13b1
              try clear hcz11_0
              try clear hcz11_1
              try clear hcz11_2
              try clear hcz11_3
              try clear hcz4_0
              try clear hcz4_1
              try clear hcz4_2
              try clear hcz4_3
              try clear hcz9_0
              try clear hcz9_1
              try clear hcz9_2
              try clear hcz9_3
              try clear hfz11_0
              try clear hfz11_1
              try clear hfz11_2
              try clear hfz11_3
              try clear hfz4_0
              try clear hfz4_1
              try clear hfz4_2
              try clear hfz4_3
              try clear hfz9_0
              try clear hfz9_1
              try clear hfz9_2
              try clear hfz9_3
              try clear p2
              try clear p6
              obtain ⟨kq, x20_11, rfl, HA, HJ11, BK158, HB⟩ := hcut
              cases kq with
              | zero => exact absurd HA.out (by simp [posternref02_Uses.j1])
              | succ kj11 =>
                have H := HA.out
                clear HA
                simp only [posternref02_Uses.j1] at H
                by_cases c14 : x20_11 = true
                · subst c14
                  have H1 : (if (wrap64 (Int.tdiv a0 16)) = 8 then (some (true, false, false, false)) else (some (true, ((Int.tmod (wrap64 (Int.tdiv a0 8)) 2) == 1), false, !((Int.tmod (wrap64 (Int.tdiv a0 8)) 2) == 1)))) = some (r1, r2, r3, r4) := by rw [if_pos rfl] at H; exact H
                  clear H
                  have H := H1
                  clear H1
                  by_cases c15 : (wrap64 (Int.tdiv a0 16)) = 8
                  · rw [if_pos c15] at H
                    have c15b0 : ((wrap64 (Int.tdiv a0 16)) == 8) = true := beq_iff_eq.mpr c15
                    have c15b1 : ((wrap64 (Int.tdiv a0 16)) != 8) = false := bne_eq_false_iff_eq.mpr c15
                    clear c15
                    simp only [Option.some.injEq, Prod.mk.injEq] at H
                    obtain ⟨rfl, rfl, rfl, rfl⟩ := H
                    have hcz16_0 : wc.cell? ⟨gb158, 0, none⟩ = some (.bool false) := (blk_cell BK158.out 0).trans rfl
                    have hcz16_1 : wc.cell? ⟨gb158, 1, none⟩ = some (.bool false) := (blk_cell BK158.out 1).trans rfl
                    have hcz16_2 : wc.cell? ⟨gb158, 2, none⟩ = some (.bool false) := (blk_cell BK158.out 2).trans rfl
                    have hcz16_3 : wc.cell? ⟨gb158, 3, none⟩ = some (.bool false) := (blk_cell BK158.out 3).trans rfl
                    have hfz16_0 := blk_frozen BK158.out 0
                    have hfz16_1 := blk_frozen BK158.out 1
                    have hfz16_2 := blk_frozen BK158.out 2
                    have hfz16_3 := blk_frozen BK158.out 3
                    go_wp2
                    refine bodyPost_ret (results_cell_row rfl _ _ gb158 76 #[.bool true, .bool false, .bool false, .bool false] (0, 0) _ rfl (by (with_reducible repeat (first | refine blk_drewN ?_ _ | refine blk_drew ?_ | refine blk_alloc ?_ _)); refine blk_put (cs := #[.bool true, .bool false, .bool false, .bool false]) ?_ 3 _ rfl; (with_reducible repeat (first | refine blk_drewN ?_ _ | refine blk_drew ?_ | refine blk_alloc ?_ _)); refine blk_put (cs := #[.bool true, .bool false, .bool false, .bool false]) ?_ 2 _ rfl; (with_reducible repeat (first | refine blk_drewN ?_ _ | refine blk_drew ?_ | refine blk_alloc ?_ _)); refine blk_put (cs := #[.bool true, .bool false, .bool false, .bool false]) ?_ 1 _ rfl; (with_reducible repeat (first | refine blk_drewN ?_ _ | refine blk_drew ?_ | refine blk_alloc ?_ _)); refine blk_put (cs := #[.bool false, .bool false, .bool false, .bool false]) ?_ 0 _ rfl; (with_reducible repeat (first | refine blk_drewN ?_ _ | refine blk_drew ?_ | refine blk_alloc ?_ _)); exact BK158.out) Try.underlying76 rfl (by kernel_rfl)) rfl ?_
                    exact ⟨by first | rfl | (simp [errW_none, errW_some] <;> rfl) | (simp [*, errW_none, errW_some] <;> rfl), by repeat (first | (with_reducible first | exact HB.out | apply below_alloc | apply pw_below_drewN | apply below_drew1 | refine below_set ?_ GE158.out) | exact HB.out)⟩
                  · rw [if_neg c15] at H
                    have c15b0 : ((wrap64 (Int.tdiv a0 16)) == 8) = false := beq_eq_false_iff_ne.mpr c15
                    have c15b1 : ((wrap64 (Int.tdiv a0 16)) != 8) = true := bne_iff_ne.mpr c15
                    simp only [Option.some.injEq, Prod.mk.injEq] at H
                    obtain ⟨rfl, rfl, rfl, rfl⟩ := H
                    have hcz17_0 : wc.cell? ⟨gb158, 0, none⟩ = some (.bool false) := (blk_cell BK158.out 0).trans rfl
                    have hcz17_1 : wc.cell? ⟨gb158, 1, none⟩ = some (.bool false) := (blk_cell BK158.out 1).trans rfl
                    have hcz17_2 : wc.cell? ⟨gb158, 2, none⟩ = some (.bool false) := (blk_cell BK158.out 2).trans rfl
                    have hcz17_3 : wc.cell? ⟨gb158, 3, none⟩ = some (.bool false) := (blk_cell BK158.out 3).trans rfl
                    have hfz17_0 := blk_frozen BK158.out 0
                    have hfz17_1 := blk_frozen BK158.out 1
                    have hfz17_2 := blk_frozen BK158.out 2
                    have hfz17_3 := blk_frozen BK158.out 3
                    go_wp2
                    refine bodyPost_ret (results_cell_row rfl _ _ gb158 76 #[.bool true, .bool ((Int.tmod (wrap64 (Int.tdiv a0 8)) 2) == 1), .bool false, .bool (!((Int.tmod (wrap64 (Int.tdiv a0 8)) 2) == 1))] (0, 0) _ rfl (by (with_reducible repeat (first | refine blk_drewN ?_ _ | refine blk_drew ?_ | refine blk_alloc ?_ _)); refine blk_put (cs := #[.bool true, .bool ((Int.tmod (wrap64 (Int.tdiv a0 8)) 2) == 1), .bool false, .bool false]) ?_ 3 _ rfl; (with_reducible repeat (first | refine blk_drewN ?_ _ | refine blk_drew ?_ | refine blk_alloc ?_ _)); refine blk_put (cs := #[.bool true, .bool ((Int.tmod (wrap64 (Int.tdiv a0 8)) 2) == 1), .bool false, .bool false]) ?_ 2 _ rfl; (with_reducible repeat (first | refine blk_drewN ?_ _ | refine blk_drew ?_ | refine blk_alloc ?_ _)); refine blk_put (cs := #[.bool true, .bool false, .bool false, .bool false]) ?_ 1 _ rfl; (with_reducible repeat (first | refine blk_drewN ?_ _ | refine blk_drew ?_ | refine blk_alloc ?_ _)); refine blk_put (cs := #[.bool false, .bool false, .bool false, .bool false]) ?_ 0 _ rfl; (with_reducible repeat (first | refine blk_drewN ?_ _ | refine blk_drew ?_ | refine blk_alloc ?_ _)); exact BK158.out) Try.underlying76 rfl (by kernel_rfl)) rfl ?_
                    exact ⟨by first | rfl | (simp [errW_none, errW_some] <;> rfl) | (simp [*, errW_none, errW_some] <;> rfl), by repeat (first | (with_reducible first | exact HB.out | apply below_alloc | apply pw_below_drewN | apply below_drew1 | refine below_set ?_ GE158.out) | exact HB.out)⟩
                · replace c14 := Bool.eq_false_iff.mpr c14
                  subst c14
                  have H1 : (if a0 = 5 then (some (false, false, true, false)) else (if a0 = 133 then (some (false, true, false, true)) else (if a0 = 149 then (some (false, false, false, false)) else (some (true, ((Int.tmod (wrap64 (Int.tdiv a0 8)) 2) == 1), true, !((Int.tmod (wrap64 (Int.tdiv a0 8)) 2) == 1)))))) = some (r1, r2, r3, r4) := by rw [if_neg (show ¬ (false = true) by decide)] at H; exact H
                  clear H
                  have H := H1
                  clear H1
                  by_cases c18 : a0 = 5
                  · rw [if_pos c18] at H
                    have c18b0 : (a0 == 5) = true := beq_iff_eq.mpr c18
                    have c18b1 : (a0 != 5) = false := bne_eq_false_iff_eq.mpr c18
                    clear c18
                    simp only [Option.some.injEq, Prod.mk.injEq] at H
                    obtain ⟨rfl, rfl, rfl, rfl⟩ := H
                    have hcz19_0 : wc.cell? ⟨gb158, 0, none⟩ = some (.bool false) := (blk_cell BK158.out 0).trans rfl
                    have hcz19_1 : wc.cell? ⟨gb158, 1, none⟩ = some (.bool false) := (blk_cell BK158.out 1).trans rfl
                    have hcz19_2 : wc.cell? ⟨gb158, 2, none⟩ = some (.bool false) := (blk_cell BK158.out 2).trans rfl
                    have hcz19_3 : wc.cell? ⟨gb158, 3, none⟩ = some (.bool false) := (blk_cell BK158.out 3).trans rfl
                    have hfz19_0 := blk_frozen BK158.out 0
                    have hfz19_1 := blk_frozen BK158.out 1
                    have hfz19_2 := blk_frozen BK158.out 2
                    have hfz19_3 := blk_frozen BK158.out 3
                    go_wp2
                    refine bodyPost_ret (results_cell_row rfl _ _ gb158 76 #[.bool false, .bool false, .bool true, .bool false] (0, 0) _ rfl (by (with_reducible repeat (first | refine blk_drewN ?_ _ | refine blk_drew ?_ | refine blk_alloc ?_ _)); refine blk_put (cs := #[.bool false, .bool false, .bool true, .bool false]) ?_ 3 _ rfl; (with_reducible repeat (first | refine blk_drewN ?_ _ | refine blk_drew ?_ | refine blk_alloc ?_ _)); refine blk_put (cs := #[.bool false, .bool false, .bool false, .bool false]) ?_ 2 _ rfl; (with_reducible repeat (first | refine blk_drewN ?_ _ | refine blk_drew ?_ | refine blk_alloc ?_ _)); refine blk_put (cs := #[.bool false, .bool false, .bool false, .bool false]) ?_ 1 _ rfl; (with_reducible repeat (first | refine blk_drewN ?_ _ | refine blk_drew ?_ | refine blk_alloc ?_ _)); refine blk_put (cs := #[.bool false, .bool false, .bool false, .bool false]) ?_ 0 _ rfl; (with_reducible repeat (first | refine blk_drewN ?_ _ | refine blk_drew ?_ | refine blk_alloc ?_ _)); exact BK158.out) Try.underlying76 rfl (by kernel_rfl)) rfl ?_
                    exact ⟨by first | rfl | (simp [errW_none, errW_some] <;> rfl) | (simp [*, errW_none, errW_some] <;> rfl), by repeat (first | (with_reducible first | exact HB.out | apply below_alloc | apply pw_below_drewN | apply below_drew1 | refine below_set ?_ GE158.out) | exact HB.out)⟩
                  · rw [if_neg c18] at H
                    have c18b0 : (a0 == 5) = false := beq_eq_false_iff_ne.mpr c18
                    have c18b1 : (a0 != 5) = true := bne_iff_ne.mpr c18
                    by_cases c20 : a0 = 133
                    · rw [if_pos c20] at H
                      have c20b0 : (a0 == 133) = true := beq_iff_eq.mpr c20
                      have c20b1 : (a0 != 133) = false := bne_eq_false_iff_eq.mpr c20
                      clear c20
                      simp only [Option.some.injEq, Prod.mk.injEq] at H
                      obtain ⟨rfl, rfl, rfl, rfl⟩ := H
                      have hcz21_0 : wc.cell? ⟨gb158, 0, none⟩ = some (.bool false) := (blk_cell BK158.out 0).trans rfl
                      have hcz21_1 : wc.cell? ⟨gb158, 1, none⟩ = some (.bool false) := (blk_cell BK158.out 1).trans rfl
                      have hcz21_2 : wc.cell? ⟨gb158, 2, none⟩ = some (.bool false) := (blk_cell BK158.out 2).trans rfl
                      have hcz21_3 : wc.cell? ⟨gb158, 3, none⟩ = some (.bool false) := (blk_cell BK158.out 3).trans rfl
                      have hfz21_0 := blk_frozen BK158.out 0
                      have hfz21_1 := blk_frozen BK158.out 1
                      have hfz21_2 := blk_frozen BK158.out 2
                      have hfz21_3 := blk_frozen BK158.out 3
                      go_wp2
                      refine bodyPost_ret (results_cell_row rfl _ _ gb158 76 #[.bool false, .bool true, .bool false, .bool true] (0, 0) _ rfl (by (with_reducible repeat (first | refine blk_drewN ?_ _ | refine blk_drew ?_ | refine blk_alloc ?_ _)); refine blk_put (cs := #[.bool false, .bool true, .bool false, .bool false]) ?_ 3 _ rfl; (with_reducible repeat (first | refine blk_drewN ?_ _ | refine blk_drew ?_ | refine blk_alloc ?_ _)); refine blk_put (cs := #[.bool false, .bool true, .bool false, .bool false]) ?_ 2 _ rfl; (with_reducible repeat (first | refine blk_drewN ?_ _ | refine blk_drew ?_ | refine blk_alloc ?_ _)); refine blk_put (cs := #[.bool false, .bool false, .bool false, .bool false]) ?_ 1 _ rfl; (with_reducible repeat (first | refine blk_drewN ?_ _ | refine blk_drew ?_ | refine blk_alloc ?_ _)); refine blk_put (cs := #[.bool false, .bool false, .bool false, .bool false]) ?_ 0 _ rfl; (with_reducible repeat (first | refine blk_drewN ?_ _ | refine blk_drew ?_ | refine blk_alloc ?_ _)); exact BK158.out) Try.underlying76 rfl (by kernel_rfl)) rfl ?_
                      exact ⟨by first | rfl | (simp [errW_none, errW_some] <;> rfl) | (simp [*, errW_none, errW_some] <;> rfl), by repeat (first | (with_reducible first | exact HB.out | apply below_alloc | apply pw_below_drewN | apply below_drew1 | refine below_set ?_ GE158.out) | exact HB.out)⟩
                    · rw [if_neg c20] at H
                      have c20b0 : (a0 == 133) = false := beq_eq_false_iff_ne.mpr c20
                      have c20b1 : (a0 != 133) = true := bne_iff_ne.mpr c20
                      by_cases c22 : a0 = 149
                      · rw [if_pos c22] at H
                        have c22b0 : (a0 == 149) = true := beq_iff_eq.mpr c22
                        have c22b1 : (a0 != 149) = false := bne_eq_false_iff_eq.mpr c22
                        clear c22
                        simp only [Option.some.injEq, Prod.mk.injEq] at H
                        obtain ⟨rfl, rfl, rfl, rfl⟩ := H
                        have hcz23_0 : wc.cell? ⟨gb158, 0, none⟩ = some (.bool false) := (blk_cell BK158.out 0).trans rfl
                        have hcz23_1 : wc.cell? ⟨gb158, 1, none⟩ = some (.bool false) := (blk_cell BK158.out 1).trans rfl
                        have hcz23_2 : wc.cell? ⟨gb158, 2, none⟩ = some (.bool false) := (blk_cell BK158.out 2).trans rfl
                        have hcz23_3 : wc.cell? ⟨gb158, 3, none⟩ = some (.bool false) := (blk_cell BK158.out 3).trans rfl
                        have hfz23_0 := blk_frozen BK158.out 0
                        have hfz23_1 := blk_frozen BK158.out 1
                        have hfz23_2 := blk_frozen BK158.out 2
                        have hfz23_3 := blk_frozen BK158.out 3
                        go_wp2
                        refine bodyPost_ret (results_cell_row rfl _ _ gb158 76 #[.bool false, .bool false, .bool false, .bool false] (0, 0) _ rfl (by (with_reducible repeat (first | refine blk_drewN ?_ _ | refine blk_drew ?_ | refine blk_alloc ?_ _)); refine blk_put (cs := #[.bool false, .bool false, .bool false, .bool false]) ?_ 3 _ rfl; (with_reducible repeat (first | refine blk_drewN ?_ _ | refine blk_drew ?_ | refine blk_alloc ?_ _)); refine blk_put (cs := #[.bool false, .bool false, .bool false, .bool false]) ?_ 2 _ rfl; (with_reducible repeat (first | refine blk_drewN ?_ _ | refine blk_drew ?_ | refine blk_alloc ?_ _)); refine blk_put (cs := #[.bool false, .bool false, .bool false, .bool false]) ?_ 1 _ rfl; (with_reducible repeat (first | refine blk_drewN ?_ _ | refine blk_drew ?_ | refine blk_alloc ?_ _)); refine blk_put (cs := #[.bool false, .bool false, .bool false, .bool false]) ?_ 0 _ rfl; (with_reducible repeat (first | refine blk_drewN ?_ _ | refine blk_drew ?_ | refine blk_alloc ?_ _)); exact BK158.out) Try.underlying76 rfl (by kernel_rfl)) rfl ?_
                        exact ⟨by first | rfl | (simp [errW_none, errW_some] <;> rfl) | (simp [*, errW_none, errW_some] <;> rfl), by repeat (first | (with_reducible first | exact HB.out | apply below_alloc | apply pw_below_drewN | apply below_drew1 | refine below_set ?_ GE158.out) | exact HB.out)⟩
                      · rw [if_neg c22] at H
                        have c22b0 : (a0 == 149) = false := beq_eq_false_iff_ne.mpr c22
                        have c22b1 : (a0 != 149) = true := bne_iff_ne.mpr c22
                        simp only [Option.some.injEq, Prod.mk.injEq] at H
                        obtain ⟨rfl, rfl, rfl, rfl⟩ := H
                        have hcz24_0 : wc.cell? ⟨gb158, 0, none⟩ = some (.bool false) := (blk_cell BK158.out 0).trans rfl
                        have hcz24_1 : wc.cell? ⟨gb158, 1, none⟩ = some (.bool false) := (blk_cell BK158.out 1).trans rfl
                        have hcz24_2 : wc.cell? ⟨gb158, 2, none⟩ = some (.bool false) := (blk_cell BK158.out 2).trans rfl
                        have hcz24_3 : wc.cell? ⟨gb158, 3, none⟩ = some (.bool false) := (blk_cell BK158.out 3).trans rfl
                        have hfz24_0 := blk_frozen BK158.out 0
                        have hfz24_1 := blk_frozen BK158.out 1
                        have hfz24_2 := blk_frozen BK158.out 2
                        have hfz24_3 := blk_frozen BK158.out 3
                        go_wp2
                        refine bodyPost_ret (results_cell_row rfl _ _ gb158 76 #[.bool true, .bool ((Int.tmod (wrap64 (Int.tdiv a0 8)) 2) == 1), .bool true, .bool (!((Int.tmod (wrap64 (Int.tdiv a0 8)) 2) == 1))] (0, 0) _ rfl (by (with_reducible repeat (first | refine blk_drewN ?_ _ | refine blk_drew ?_ | refine blk_alloc ?_ _)); refine blk_put (cs := #[.bool true, .bool ((Int.tmod (wrap64 (Int.tdiv a0 8)) 2) == 1), .bool true, .bool false]) ?_ 3 _ rfl; (with_reducible repeat (first | refine blk_drewN ?_ _ | refine blk_drew ?_ | refine blk_alloc ?_ _)); refine blk_put (cs := #[.bool true, .bool ((Int.tmod (wrap64 (Int.tdiv a0 8)) 2) == 1), .bool false, .bool false]) ?_ 2 _ rfl; (with_reducible repeat (first | refine blk_drewN ?_ _ | refine blk_drew ?_ | refine blk_alloc ?_ _)); refine blk_put (cs := #[.bool true, .bool false, .bool false, .bool false]) ?_ 1 _ rfl; (with_reducible repeat (first | refine blk_drewN ?_ _ | refine blk_drew ?_ | refine blk_alloc ?_ _)); refine blk_put (cs := #[.bool false, .bool false, .bool false, .bool false]) ?_ 0 _ rfl; (with_reducible repeat (first | refine blk_drewN ?_ _ | refine blk_drew ?_ | refine blk_alloc ?_ _)); exact BK158.out) Try.underlying76 rfl (by kernel_rfl)) rfl ?_
                        exact ⟨by first | rfl | (simp [errW_none, errW_some] <;> rfl) | (simp [*, errW_none, errW_some] <;> rfl), by repeat (first | (with_reducible first | exact HB.out | apply below_alloc | apply pw_below_drewN | apply below_drew1 | refine below_set ?_ GE158.out) | exact HB.out)⟩

end Go.Proofs.Ytiekhgllnpgjcaa.PInsnPlain
