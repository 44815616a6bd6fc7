-- PRINTED BY print.sh 35421559b90ae4d0a3588c463048766b98c2df88dd9212a6774a882060cdf62d: not written by this session
import Derived.Test.YtpkgegklpbholaaPAluHoldsx0
import Derived.Test.YtpkgegklpbholaaPAluHoldsx1
namespace Go.Proofs.Ytpkgegklpbholaa.PAluHolds
open Go.RowKit Go.Proofs.YtpkgegklpbholaaW.PrintWords Go.Proofs.YtpkgegklpbholaaW.PrintLast Go.Proofs.YtpkgegklpbholaaW.PrintMore
attribute [local go_sem] max2_int min2_int max_two min_two max_three min_three max_four min_four   -- for this text's walks alone
set_option linter.unusedVariables false
set_option linter.unusedSimpArgs false

/-! ### posternref05_Holds: function 34 -/
mutual
def posternref05_Holds.j0 : Nat → Int → Int → Int → Int → Option (Bool × Bool)
  | 0, _, _, _, _ => none
  | k + 1, x0, x1, x2, x3 => (posternref05_pow.f k (IntKind.u64.wrap (wrap64 (x1 - 1)))).bind fun t109 => (if x1 = 32 then (posternref05_Holds.j1 k x0 x2 x3 (Int.tmod (IntKind.u64.wrap (x2 + t109)) 4294967296) (Int.tmod (IntKind.u64.wrap (x3 + t109)) 4294967296)) else (posternref05_Holds.j1 k x0 x2 x3 (IntKind.u64.wrap (x2 + t109)) (IntKind.u64.wrap (x3 + t109))))
def posternref05_Holds.j1 : Nat → Int → Int → Int → Int → Int → Option (Bool × Bool)
  | 0, _, _, _, _, _ => none
  | k + 1, x0, x2, x3, x11, x12 => if x0 = 16 then (some ((x2 == x3), true)) else (if x0 = 80 then (some ((x2 != x3), true)) else (if x0 = 32 then (some (decide (x2 > x3), true)) else (if x0 = 48 then (some (decide (x2 ≥ x3), true)) else (if x0 = 160 then (some (decide (x2 < x3), true)) else (if x0 = 176 then (some (decide (x2 ≤ x3), true)) else (if x0 = 96 then (some (decide (x11 > x12), true)) else (if x0 = 112 then (some (decide (x11 ≥ x12), true)) else (if x0 = 192 then (some (decide (x11 < x12), true)) else (if x0 = 208 then (some (decide (x11 ≤ x12), true)) else (if x0 = 64 then (some (decide ((Go.bits .and .u64 x2 x3) > 0), true)) else (some (false, false))))))))))))
end
def posternref05_Holds.f (k : Nat) (a0 : Int) (a1 : Int) (a2 : Int) (a3 : Int) : Option (Bool × Bool) := if a1 = 32 then (posternref05_Holds.j0 k a0 a1 (Int.tmod a2 4294967296) (Int.tmod a3 4294967296)) else (posternref05_Holds.j0 k a0 a1 a2 a3)
theorem posternref05_Holds.mono_l : ∀ k, (∀ y0 y1 y2 y3, LeO (posternref05_Holds.j0 k y0 y1 y2 y3) (posternref05_Holds.j0 (k + 1) y0 y1 y2 y3)) ∧ (∀ y0 y1 y2 y3 y4, LeO (posternref05_Holds.j1 k y0 y1 y2 y3 y4) (posternref05_Holds.j1 (k + 1) y0 y1 y2 y3 y4))
  | 0 => ⟨fun _ _ _ _ r h => by simp [posternref05_Holds.j0] at h, fun _ _ _ _ _ r h => by simp [posternref05_Holds.j1] at h⟩
  | k + 1 => by
    obtain ⟨ih0, ih1⟩ := posternref05_Holds.mono_l k
    refine ⟨?_, ?_⟩
    · intro y0 y1 y2 y3
      unfold posternref05_Holds.j0
      repeat' first
      | (with_reducible exact ih0 _ _ _ _)
      | (with_reducible exact ih1 _ _ _ _ _)
      | (with_reducible exact posternref05_pow.mono _ _)
      | (with_reducible exact LeO.refl _)
      | (with_reducible exact LeO.none _)
      | (with_reducible refine LeO.ite ?_ ?_)
      | (with_reducible refine LeO.bind ?_ (fun _ => ?_))
      | exact ih0 _ _ _ _
      | exact ih1 _ _ _ _ _
      | exact posternref05_pow.mono _ _
      | exact LeO.none _
      | refine LeO.ite ?_ ?_
      | refine LeO.bind ?_ (fun _ => ?_)
    · intro y0 y1 y2 y3 y4
      unfold posternref05_Holds.j1
      repeat' first
      | (with_reducible exact ih0 _ _ _ _)
      | (with_reducible exact ih1 _ _ _ _ _)
      | (with_reducible exact posternref05_pow.mono _ _)
      | (with_reducible exact LeO.refl _)
      | (with_reducible exact LeO.none _)
      | (with_reducible refine LeO.ite ?_ ?_)
      | (with_reducible refine LeO.bind ?_ (fun _ => ?_))
      | exact ih0 _ _ _ _
      | exact ih1 _ _ _ _ _
      | exact posternref05_pow.mono _ _
      | exact LeO.none _
      | refine LeO.ite ?_ ?_
      | refine LeO.bind ?_ (fun _ => ?_)
theorem posternref05_Holds.mono : ∀ a0 a1 a2 a3 k, LeO (posternref05_Holds.f k a0 a1 a2 a3) (posternref05_Holds.f (k + 1) a0 a1 a2 a3) := by
  intro a0 a1 a2 a3 k
  obtain ⟨ih0, ih1⟩ := posternref05_Holds.mono_l k
  unfold posternref05_Holds.f
  repeat' first
      | (with_reducible exact ih0 _ _ _ _)
      | (with_reducible exact ih1 _ _ _ _ _)
      | (with_reducible exact posternref05_pow.mono _ _)
      | (with_reducible exact LeO.refl _)
      | (with_reducible exact LeO.none _)
      | (with_reducible refine LeO.ite ?_ ?_)
      | (with_reducible refine LeO.bind ?_ (fun _ => ?_))
      | exact ih0 _ _ _ _
      | exact ih1 _ _ _ _ _
      | exact posternref05_pow.mono _ _
      | exact LeO.none _
      | refine LeO.ite ?_ ?_
      | refine LeO.bind ?_ (fun _ => ?_)
set_option maxHeartbeats 8000000 in
set_option maxRecDepth 100000 in
theorem posternref05_Holds.calls (k : Nat) (a0 : Int) (a1 : Int) (a2 : Int) (a3 : Int) (r1 : Bool) (r2 : Bool) (w : World) (h : posternref05_Holds.f k a0 a1 a2 a3 = some (r1, r2)) :
    Calls Try.prog 34 #[.int .i64 a0, .int .i64 a1, .int .u64 a2, .int .u64 a3] w fun e w' => e = .returned (.tuple #[.bool r1, .bool r2]) ∧ Drawn0 w w' := by
  have H : (if a1 = 32 then (posternref05_Holds.j0 k a0 a1 (Int.tmod a2 4294967296) (Int.tmod a3 4294967296)) else (posternref05_Holds.j0 k a0 a1 a2 a3)) = some (r1, r2) := h
  clear h
  have HC5 := Aside0.mk H
  clear H
  go_enter Try.func34, Try.ntmps34
  go_upto_if 14 with (fail)
  go_cut [2, 3] (fun v2 v3 wc => ∃ (kq : Nat) (x2_4 : Int) (x3_4 : Int), v2 = .int .u64 x2_4 ∧ v3 = .int .u64 x3_4 ∧ Aside0 (posternref05_Holds.j0 kq a0 a1 x2_4 x3_4 = some (r1, r2)) ∧ Aside0 (kq ≤ k) ∧ Drawn0 w wc)
  case first =>
    have H := HC5.out
    clear HC5
    by_cases c6 : a1 = 32
    · rw [if_pos c6] at H
      have c6b0 : (a1 == 32) = true := beq_iff_eq.mpr c6
      have c6b1 : (a1 != 32) = false := bne_eq_false_iff_eq.mpr c6
      clear c6
      (first | rw [c6b0] | (simp only [i64_w, i32_w]; rw [c6b0]) | skip)
      have H' := Aside0.mk H
      clear H
      go_wp2
      go_meet
      case rel => exact ⟨_, (Int.tmod a2 4294967296), (Int.tmod a3 4294967296), (by first | rfl | (simp; done) | (simp [*]; done)), (by first | rfl | (simp; done) | (simp [*]; done)), H', ⟨by first | omega | exact Nat.le_refl _⟩, by repeat (first | exact Drawn0.refl _ | apply Drawn0.step)⟩
    · rw [if_neg c6] at H
      have c6b0 : (a1 == 32) = false := beq_eq_false_iff_ne.mpr c6
      have c6b1 : (a1 != 32) = true := bne_iff_ne.mpr c6
      (first | rw [c6b0] | (simp only [i64_w, i32_w]; rw [c6b0]) | skip)
      have H' := Aside0.mk H
      clear H
      go_wp2
      go_meet
      case rel => exact ⟨_, (a2), (a3), (by first | rfl | (simp; done) | (simp [*]; done)), (by first | rfl | (simp; done) | (simp [*]; done)), H', ⟨by first | omega | exact Nat.le_refl _⟩, by repeat (first | exact Drawn0.refl _ | apply Drawn0.step)⟩
  case rest =>
    clear HC5
    try clear p2
    try clear c3
    try clear c6
    try clear c6b0
    try clear c6b1
    obtain ⟨kq, x2_4, x3_4, rfl, rfl, HA, HJ4, ⟨mc4, rfl⟩⟩ := hcut
    cases kq with
    | zero => exact absurd HA.out (by simp [posternref05_Holds.j0])
    | succ kj4 =>
      have H := HA.out
      clear HA
      simp only [posternref05_Holds.j0] at H
      replace H := Option.bind_eq_some_iff.mp H
      obtain ⟨t109, A70, H⟩ := H
      replace H : (if a1 = 32 then (posternref05_Holds.j1 kj4 a0 x2_4 x3_4 (Int.tmod (IntKind.u64.wrap (x2_4 + t109)) 4294967296) (Int.tmod (IntKind.u64.wrap (x3_4 + t109)) 4294967296)) else (posternref05_Holds.j1 kj4 a0 x2_4 x3_4 (IntKind.u64.wrap (x2_4 + t109)) (IntKind.u64.wrap (x3_4 + t109)))) = some (r1, r2) := H
      have A7 := Aside0.mk A70
      clear A70
      have HC8 := Aside0.mk H
      clear H
      go_upto_if 30 with (first | ((with_reducible refine gate_callee (f := 44) rfl ?_); refine goesL_ (some 22) rfl rfl Try.func44 (by kernel_rfl) rfl #[.int .u64 (IntKind.u64.wrap (wrap64 (a1 - 1)))] rfl (by (try simp only [List.map_toArray, List.map_cons, List.map_nil]); first | done | rfl | (simp only [List.length_drop, List.length_take]; rfl)) ?_; (with_reducible refine (posternref05_pow.calls kj4 (IntKind.u64.wrap (wrap64 (a1 - 1))) t109 _ A7.out).mono ?_); rintro e w' ⟨rfl, ⟨nd, rfl⟩⟩; refine ⟨_, rfl, ?_⟩))
      (try simp only [Act.put, List.setIfInBounds_toArray, List.set_cons_zero, List.set_cons_succ])
      go_cut [11, 12] (fun v11 v12 wc => ∃ (kq : Nat) (x11_7 : Int) (x12_7 : Int), v11 = .int .u64 x11_7 ∧ v12 = .int .u64 x12_7 ∧ Aside0 (posternref05_Holds.j1 kq a0 x2_4 x3_4 x11_7 x12_7 = some (r1, r2)) ∧ Aside0 (kq ≤ kj4) ∧ Drawn0 w wc)
      case first =>
        have H := HC8.out
        clear HC8
        by_cases c9 : a1 = 32
        · rw [if_pos c9] at H
          have c9b0 : (a1 == 32) = true := beq_iff_eq.mpr c9
          have c9b1 : (a1 != 32) = false := bne_eq_false_iff_eq.mpr c9
          clear c9
          (first | rw [c9b0] | (simp only [i64_w, i32_w]; rw [c9b0]) | skip)
          have H' := Aside0.mk H
          clear H
          go_wp2
          go_meet
          case rel => exact ⟨_, (Int.tmod (IntKind.u64.wrap (x2_4 + t109)) 4294967296), (Int.tmod (IntKind.u64.wrap (x3_4 + t109)) 4294967296), (by first | rfl | (simp; done) | (simp [*]; done)), (by first | rfl | (simp; done) | (simp [*]; done)), H', ⟨by have := HJ4.out; first | omega | exact Nat.le_refl _⟩, by repeat (first | exact Drawn0.refl _ | apply Drawn0.step)⟩
        · rw [if_neg c9] at H
          have c9b0 : (a1 == 32) = false := beq_eq_false_iff_ne.mpr c9
          have c9b1 : (a1 != 32) = true := bne_iff_ne.mpr c9
          (first | rw [c9b0] | (simp only [i64_w, i32_w]; rw [c9b0]) | skip)
          have H' := Aside0.mk H
          clear H
          go_wp2
          go_meet
          case rel => exact ⟨_, (IntKind.u64.wrap (x2_4 + t109)), (IntKind.u64.wrap (x3_4 + t109)), (by first | rfl | (simp; done) | (simp [*]; done)), (by first | rfl | (simp; done) | (simp [*]; done)), H', ⟨by have := HJ4.out; first | omega | exact Nat.le_refl _⟩, by repeat (first | exact Drawn0.refl _ | apply Drawn0.step)⟩
      case rest =>
        clear HC8
        try clear p2
        try clear c3
        try clear c4
        try clear c6
        try clear c6b0
        try clear c6b1
        try clear p6
        try clear c9
        try clear c9b0
        try clear c9b1
        try clear p2
        obtain ⟨kq, x11_7, x12_7, rfl, rfl, HA, HJ7, ⟨mc7, rfl⟩⟩ := hcut
        cases kq with
        | zero => exact absurd HA.out (by simp [posternref05_Holds.j1])
        | succ kj7 =>
          have H := HA.out
          clear HA
          simp only [posternref05_Holds.j1] at H
          by_cases c10 : a0 = 16
          · rw [if_pos c10] at H
            have c10b0 : (a0 == 16) = true := beq_iff_eq.mpr c10
            have c10b1 : (a0 != 16) = false := bne_eq_false_iff_eq.mpr c10
            clear c10
            simp only [Option.some.injEq, Prod.mk.injEq] at H
            obtain ⟨rfl, rfl⟩ := H
            go_wp2
            go_ret2
            exact ⟨by first | rfl | (simp; done) | (simp [*]; done), by repeat (first | exact Drawn0.refl _ | apply Drawn0.step)⟩
          · rw [if_neg c10] at H
            have c10b0 : (a0 == 16) = false := beq_eq_false_iff_ne.mpr c10
            have c10b1 : (a0 != 16) = true := bne_iff_ne.mpr c10
            by_cases c11 : a0 = 80
            · rw [if_pos c11] at H
              have c11b0 : (a0 == 80) = true := beq_iff_eq.mpr c11
              have c11b1 : (a0 != 80) = false := bne_eq_false_iff_eq.mpr c11
              clear c11
              simp only [Option.some.injEq, Prod.mk.injEq] at H
              obtain ⟨rfl, rfl⟩ := H
              go_wp2
              go_ret2
              exact ⟨by first | rfl | (simp; done) | (simp [*]; done), by repeat (first | exact Drawn0.refl _ | apply Drawn0.step)⟩
            · rw [if_neg c11] at H
              have c11b0 : (a0 == 80) = false := beq_eq_false_iff_ne.mpr c11
              have c11b1 : (a0 != 80) = true := bne_iff_ne.mpr c11
              by_cases c12 : a0 = 32
              · rw [if_pos c12] at H
                have c12b0 : (a0 == 32) = true := beq_iff_eq.mpr c12
                have c12b1 : (a0 != 32) = false := bne_eq_false_iff_eq.mpr c12
                clear c12
                simp only [Option.some.injEq, Prod.mk.injEq] at H
                obtain ⟨rfl, rfl⟩ := H
                go_wp2
                go_ret2
                exact ⟨by first | rfl | (simp; done) | (simp [*]; done), by repeat (first | exact Drawn0.refl _ | apply Drawn0.step)⟩
              · rw [if_neg c12] at H
                have c12b0 : (a0 == 32) = false := beq_eq_false_iff_ne.mpr c12
                have c12b1 : (a0 != 32) = true := bne_iff_ne.mpr c12
                by_cases c13 : a0 = 48
                · rw [if_pos c13] at H
                  have c13b0 : (a0 == 48) = true := beq_iff_eq.mpr c13
                  have c13b1 : (a0 != 48) = false := bne_eq_false_iff_eq.mpr c13
                  clear c13
                  simp only [Option.some.injEq, Prod.mk.injEq] at H
                  obtain ⟨rfl, rfl⟩ := H
                  go_wp2
                  go_ret2
                  exact ⟨by first | rfl | (simp; done) | (simp [*]; done), by repeat (first | exact Drawn0.refl _ | apply Drawn0.step)⟩
                · rw [if_neg c13] at H
                  have c13b0 : (a0 == 48) = false := beq_eq_false_iff_ne.mpr c13
                  have c13b1 : (a0 != 48) = true := bne_iff_ne.mpr c13
                  by_cases c14 : a0 = 160
                  · rw [if_pos c14] at H
                    have c14b0 : (a0 == 160) = true := beq_iff_eq.mpr c14
                    have c14b1 : (a0 != 160) = false := bne_eq_false_iff_eq.mpr c14
                    clear c14
                    simp only [Option.some.injEq, Prod.mk.injEq] at H
                    obtain ⟨rfl, rfl⟩ := H
                    go_wp2
                    go_ret2
                    exact ⟨by first | rfl | (simp; done) | (simp [*]; done), by repeat (first | exact Drawn0.refl _ | apply Drawn0.step)⟩
                  · rw [if_neg c14] at H
                    have c14b0 : (a0 == 160) = false := beq_eq_false_iff_ne.mpr c14
                    have c14b1 : (a0 != 160) = true := bne_iff_ne.mpr c14
                    by_cases c15 : a0 = 176
                    · rw [if_pos c15] at H
                      have c15b0 : (a0 == 176) = true := beq_iff_eq.mpr c15
                      have c15b1 : (a0 != 176) = false := bne_eq_false_iff_eq.mpr c15
                      clear c15
                      simp only [Option.some.injEq, Prod.mk.injEq] at H
                      obtain ⟨rfl, rfl⟩ := H
                      go_wp2
                      go_ret2
                      exact ⟨by first | rfl | (simp; done) | (simp [*]; done), by repeat (first | exact Drawn0.refl _ | apply Drawn0.step)⟩
                    · rw [if_neg c15] at H
                      have c15b0 : (a0 == 176) = false := beq_eq_false_iff_ne.mpr c15
                      have c15b1 : (a0 != 176) = true := bne_iff_ne.mpr c15
                      by_cases c16 : a0 = 96
                      · rw [if_pos c16] at H
                        have c16b0 : (a0 == 96) = true := beq_iff_eq.mpr c16
                        have c16b1 : (a0 != 96) = false := bne_eq_false_iff_eq.mpr c16
                        clear c16
                        simp only [Option.some.injEq, Prod.mk.injEq] at H
                        obtain ⟨rfl, rfl⟩ := H
                        go_wp2
                        go_ret2
                        exact ⟨by first | rfl | (simp; done) | (simp [*]; done), by repeat (first | exact Drawn0.refl _ | apply Drawn0.step)⟩
                      · rw [if_neg c16] at H
                        have c16b0 : (a0 == 96) = false := beq_eq_false_iff_ne.mpr c16
                        have c16b1 : (a0 != 96) = true := bne_iff_ne.mpr c16
                        by_cases c17 : a0 = 112
                        · rw [if_pos c17] at H
                          have c17b0 : (a0 == 112) = true := beq_iff_eq.mpr c17
                          have c17b1 : (a0 != 112) = false := bne_eq_false_iff_eq.mpr c17
                          clear c17
                          simp only [Option.some.injEq, Prod.mk.injEq] at H
                          obtain ⟨rfl, rfl⟩ := H
                          go_wp2
                          go_ret2
                          exact ⟨by first | rfl | (simp; done) | (simp [*]; done), by repeat (first | exact Drawn0.refl _ | apply Drawn0.step)⟩
                        · rw [if_neg c17] at H
                          have c17b0 : (a0 == 112) = false := beq_eq_false_iff_ne.mpr c17
                          have c17b1 : (a0 != 112) = true := bne_iff_ne.mpr c17
                          by_cases c18 : a0 = 192
                          · rw [if_pos c18] at H
                            have c18b0 : (a0 == 192) = true := beq_iff_eq.mpr c18
                            have c18b1 : (a0 != 192) = false := bne_eq_false_iff_eq.mpr c18
                            clear c18
                            simp only [Option.some.injEq, Prod.mk.injEq] at H
                            obtain ⟨rfl, rfl⟩ := H
                            go_wp2
                            go_ret2
                            exact ⟨by first | rfl | (simp; done) | (simp [*]; done), by repeat (first | exact Drawn0.refl _ | apply Drawn0.step)⟩
                          · rw [if_neg c18] at H
                            have c18b0 : (a0 == 192) = false := beq_eq_false_iff_ne.mpr c18
                            have c18b1 : (a0 != 192) = true := bne_iff_ne.mpr c18
                            by_cases c19 : a0 = 208
                            · rw [if_pos c19] at H
                              have c19b0 : (a0 == 208) = true := beq_iff_eq.mpr c19
                              have c19b1 : (a0 != 208) = false := bne_eq_false_iff_eq.mpr c19
                              clear c19
                              simp only [Option.some.injEq, Prod.mk.injEq] at H
                              obtain ⟨rfl, rfl⟩ := H
                              go_wp2
                              go_ret2
                              exact ⟨by first | rfl | (simp; done) | (simp [*]; done), by repeat (first | exact Drawn0.refl _ | apply Drawn0.step)⟩
                            · rw [if_neg c19] at H
                              have c19b0 : (a0 == 208) = false := beq_eq_false_iff_ne.mpr c19
                              have c19b1 : (a0 != 208) = true := bne_iff_ne.mpr c19
                              by_cases c20 : a0 = 64
                              · rw [if_pos c20] at H
                                have c20b0 : (a0 == 64) = true := beq_iff_eq.mpr c20
                                have c20b1 : (a0 != 64) = false := bne_eq_false_iff_eq.mpr c20
                                clear c20
                                simp only [Option.some.injEq, Prod.mk.injEq] at H
                                obtain ⟨rfl, rfl⟩ := H
                                go_wp2
                                go_ret2
                                exact ⟨by first | rfl | (simp; done) | (simp [*]; done), by repeat (first | exact Drawn0.refl _ | apply Drawn0.step)⟩
                              · rw [if_neg c20] at H
                                have c20b0 : (a0 == 64) = false := beq_eq_false_iff_ne.mpr c20
                                have c20b1 : (a0 != 64) = true := bne_iff_ne.mpr c20
                                simp only [Option.some.injEq, Prod.mk.injEq] at H
                                obtain ⟨rfl, rfl⟩ := H
                                go_wp2
                                go_ret2
                                exact ⟨by first | rfl | (simp; done) | (simp [*]; done), by repeat (first | exact Drawn0.refl _ | apply Drawn0.step)⟩

/-! ### posternlaw05_AluHolds: function 8 -/
def posternlaw05_AluHolds.l0 : Nat → Int → Int → Int → List Bool → Int → Int → Option (Bool)
  | 0, _, _, _, _, _, _ => none
  | k + 1, x0, x1, x2, x15, x16, x17 => if x17 < x16 then (if 0 ≤ x17 then (if x17 < (x15.length : Int) then ((alu_Holds.f k x0 (rdOf false x15 x17) x1 x2).bind fun bt115 => ((posternlaw05_bits.f (rdOf false x15 x17)).bind fun t117 => ((posternref05_Holds.f k x0 t117 x1 x2).bind fun bt118 => (if (bt115.1 != bt118.1) = true then (some false) else (if (bt118.2 != (bt115.2 == 0)) = true then (some false) else (if bt118.2 = true then (posternlaw05_AluHolds.l0 k x0 x1 x2 x15 x16 (wrap64 (x17 + 1))) else (if bt115.2 = 2 then (posternlaw05_AluHolds.l0 k x0 x1 x2 x15 x16 (wrap64 (x17 + 1))) else (some false)))))))) else (none)) else (none)) else (some true)
def posternlaw05_AluHolds.f (k : Nat) (a0 : Int) (a1 : Int) (a2 : Int) : Option (Bool) := (posternlaw05_first.f k).bind fun t110 => (if t110 = true then ((some (([true, false] : List Bool) : List Bool)).bind fun y111 => (posternlaw05_AluHolds.l0 k a0 a1 a2 y111 (y111.length : Int) 0)) else (some false))
theorem posternlaw05_AluHolds.mono_l : ∀ k, (∀ y0 y1 y2 y3 y4 y5, LeO (posternlaw05_AluHolds.l0 k y0 y1 y2 y3 y4 y5) (posternlaw05_AluHolds.l0 (k + 1) y0 y1 y2 y3 y4 y5))
  | 0 => fun _ _ _ _ _ _ r h => by simp [posternlaw05_AluHolds.l0] at h
  | k + 1 => by
    have ih0 := posternlaw05_AluHolds.mono_l k
    · intro y0 y1 y2 y3 y4 y5
      unfold posternlaw05_AluHolds.l0
      repeat' first
      | (with_reducible exact ih0 _ _ _ _ _ _)
      | (with_reducible exact alu_Holds.mono _ _ _ _ _)
      | (with_reducible exact posternlaw05_first.mono _)
      | (with_reducible exact posternref05_Holds.mono _ _ _ _ _)
      | (with_reducible exact LeO.refl _)
      | (with_reducible exact LeO.none _)
      | (with_reducible refine LeO.ite ?_ ?_)
      | (with_reducible refine LeO.bind ?_ (fun _ => ?_))
      | exact ih0 _ _ _ _ _ _
      | exact alu_Holds.mono _ _ _ _ _
      | exact posternlaw05_first.mono _
      | exact posternref05_Holds.mono _ _ _ _ _
      | exact LeO.none _
      | refine LeO.ite ?_ ?_
      | refine LeO.bind ?_ (fun _ => ?_)
theorem posternlaw05_AluHolds.mono : ∀ a0 a1 a2 k, LeO (posternlaw05_AluHolds.f k a0 a1 a2) (posternlaw05_AluHolds.f (k + 1) a0 a1 a2) := by
  intro a0 a1 a2 k
  have ih0 := posternlaw05_AluHolds.mono_l k
  unfold posternlaw05_AluHolds.f
  repeat' first
      | (with_reducible exact ih0 _ _ _ _ _ _)
      | (with_reducible exact alu_Holds.mono _ _ _ _ _)
      | (with_reducible exact posternlaw05_first.mono _)
      | (with_reducible exact posternref05_Holds.mono _ _ _ _ _)
      | (with_reducible exact LeO.refl _)
      | (with_reducible exact LeO.none _)
      | (with_reducible refine LeO.ite ?_ ?_)
      | (with_reducible refine LeO.bind ?_ (fun _ => ?_))
      | exact ih0 _ _ _ _ _ _
      | exact alu_Holds.mono _ _ _ _ _
      | exact posternlaw05_first.mono _
      | exact posternref05_Holds.mono _ _ _ _ _
      | exact LeO.none _
      | refine LeO.ite ?_ ?_
      | refine LeO.bind ?_ (fun _ => ?_)
set_option maxHeartbeats 8000000 in
set_option maxRecDepth 100000 in
theorem posternlaw05_AluHolds.calls (k : Nat) (a0 : Int) (a1 : Int) (a2 : Int) (r : Bool) (w : World) (h : posternlaw05_AluHolds.f k a0 a1 a2 = some r) :
    Calls Try.prog 8 #[.int .i64 a0, .int .u64 a1, .int .u64 a2] w fun e w' => e = .returned (.bool r) ∧ Below w.heap.size w w' := by
  have HB := Aside0.mk (Below.refl w.heap.size w)
  have H : ((posternlaw05_first.f k).bind fun t110 => (if t110 = true then ((some (([true, false] : List Bool) : List Bool)).bind fun y111 => (posternlaw05_AluHolds.l0 k a0 a1 a2 y111 (y111.length : Int) 0)) else (some false))) = some r := h
  clear h
  replace H := Option.bind_eq_some_iff.mp H
  obtain ⟨t110, A40, H⟩ := H
  replace H : (if t110 = true then ((some (([true, false] : List Bool) : List Bool)).bind fun y111 => (posternlaw05_AluHolds.l0 k a0 a1 a2 y111 (y111.length : Int) 0)) else (some false)) = some r := H
  have A4 := Aside0.mk A40
  clear A40
  by_cases c5 : t110 = true
  · subst c5
    have H1 : ((some (([true, false] : List Bool) : List Bool)).bind fun y111 => (posternlaw05_AluHolds.l0 k a0 a1 a2 y111 (y111.length : Int) 0)) = some r := by rw [if_pos rfl] at H; exact H
    clear H
    have H := H1
    clear H1
    obtain ⟨y111, hy111⟩ : ∃ y_ : List Bool, y_ = (([true, false] : List Bool)) := ⟨_, rfl⟩
    replace H : (posternlaw05_AluHolds.l0 k a0 a1 a2 y111 (y111.length : Int) 0) = some r := by first | (rw [hy111]; with_reducible exact H) | (have H2_ := (Option.bind_some _ _).symm.trans H; rw [hy111]; with_reducible exact H2_) | (have H2_ := (Option.bind_some _ _).symm.trans H; with_reducible exact H2_) | with_reducible exact H | (rw [hy111]; exact H) | exact H
    have Ny111 := Aside0.mk hy111
    clear hy111
    have H' := Aside0.mk H
    clear H
    go_enter Try.func8, Try.ntmps8
    go_wp2_with (first | ((with_reducible refine gate_callee (f := 29) rfl ?_); refine goesL_ (some 13) rfl rfl Try.func29 (by kernel_rfl) rfl #[] rfl (by (try simp only [List.map_toArray, List.map_cons, List.map_nil]); first | done | rfl | (simp only [List.length_drop, List.length_take]; rfl)) ?_; (with_reducible refine (posternlaw05_first.calls k  true _ A4.out).mono ?_); rintro e w' ⟨rfl, ⟨nd, rfl⟩⟩; refine ⟨_, rfl, ?_⟩) | ((with_reducible refine gate_dst (N := 15) rfl ?_); refine Kd.R_lit Kd.bool _ 4 ?hg (N := 15) ?hd (xs := ([true, false] : List Bool)) (inner := [.bool true, .bool false]) (ok := fun _ => True) (okp := fun _ => True) ?hr ?hp (fun _ hk => hk) trivial (Below.refl _ _) (Nat.le_refl _) (by simp) ?_; (case hd => rfl); (case hg => rfl); (case hr => first | (go_simp; done) | (go_simp; rfl)); (case hp => exact (Reps.one (show Kd.M Kd.bool _ _ _ true [.bool true] from rfl) (Reps.one (show Kd.M Kd.bool _ _ _ false [.bool false] from rfl) (Reps.none _ _)))); intro v112 w6 ho7 hb hg_ hnew_; clear hg_ hnew_; (first | rw [← Ny111.out] at ho7 | (simp only [Int.reduceToNat] at ho7; rw [← Ny111.out] at ho7)); have n0_ := Aside0.mk (Kd.R_lower ho7 (below_size (by repeat (first | (with_reducible first | exact HB.out | apply below_alloc | apply pw_below_drewN | apply below_drew1) | exact HB.out)))); have n1_ := Aside0.mk (below_step (by repeat (first | (with_reducible first | exact HB.out | apply below_alloc | apply pw_below_drewN | apply below_drew1) | exact HB.out)) hb); clear HB; have HO113 := n0_; have HB := n1_; clear n0_ n1_; clear hb ho7; obtain ⟨Ao8, co8, eo8⟩ := Kd.R_slice HO113.out; subst eo8))
    go_loopg [17] k (fun kq v17 w' => ∃ (x17_1 : Int), v17 = .int .i64 x17_1 ∧ Aside0 (posternlaw05_AluHolds.l0 kq a0 a1 a2 y111 (y111.length : Int) x17_1 = some r) ∧ Aside0 (kq ≤ k) ∧ Aside0 (Kd.R Kd.bool 4 w' w.heap.size (fun _ => True) (.slice Ao8 y111.length co8) y111) ∧ Aside0 (Below w.heap.size w w'))
    case atStart => exact ⟨(0), (by first | rfl | (simp; done) | (simp [*]; done)), H', ⟨Nat.le_refl _⟩, ⟨by (with_reducible repeat (first | apply Kd.R_alloc | apply Kd.R_drewN | apply Kd.R_drew)); exact HO113.out⟩, ⟨by repeat (first | (with_reducible first | exact HB.out | apply below_alloc | apply pw_below_drewN | apply below_drew1) | exact HB.out)⟩⟩
    case round =>
      clear H'
      try clear c2
      try clear p2
      try clear c5
      try clear c8
      obtain ⟨x17_1, rfl, HA, HK1, HO_15, HB⟩ := hrel
      cases gk with
      | zero => exact absurd HA.out (by simp [posternlaw05_AluHolds.l0])
      | succ k1 =>
        have H := HA.out
        clear HA
        simp only [posternlaw05_AluHolds.l0] at H
        by_cases c9 : x17_1 < (y111.length : Int)
        · rw [if_pos c9] at H
          have c9b0 : decide (x17_1 < (y111.length : Int)) = true := decide_eq_true c9
          clear c9
          by_cases c10 : 0 ≤ x17_1
          · rw [if_pos c10] at H
            have c10b0 : decide (0 ≤ x17_1) = true := decide_eq_true c10
            clear c10
            by_cases c11 : x17_1 < (y111.length : Int)
            · rw [if_pos c11] at H
              have c11b0 : decide (x17_1 < (y111.length : Int)) = true := decide_eq_true c11
              clear c11
              replace H := Option.bind_eq_some_iff.mp H
              obtain ⟨⟨t115, t116⟩, A120, H⟩ := H
              replace H : ((posternlaw05_bits.f (rdOf false y111 x17_1)).bind fun t117 => ((posternref05_Holds.f k1 a0 t117 a1 a2).bind fun bt118 => (if (t115 != bt118.1) = true then (some false) else (if (bt118.2 != (t116 == 0)) = true then (some false) else (if bt118.2 = true then (posternlaw05_AluHolds.l0 k1 a0 a1 a2 y111 (y111.length : Int) (wrap64 (x17_1 + 1))) else (if t116 = 2 then (posternlaw05_AluHolds.l0 k1 a0 a1 a2 y111 (y111.length : Int) (wrap64 (x17_1 + 1))) else (some false))))))) = some r := H
              have A12 := Aside0.mk A120
              clear A120
              replace H := Option.bind_eq_some_iff.mp H
              obtain ⟨t117, A130, H⟩ := H
              replace H : ((posternref05_Holds.f k1 a0 t117 a1 a2).bind fun bt118 => (if (t115 != bt118.1) = true then (some false) else (if (bt118.2 != (t116 == 0)) = true then (some false) else (if bt118.2 = true then (posternlaw05_AluHolds.l0 k1 a0 a1 a2 y111 (y111.length : Int) (wrap64 (x17_1 + 1))) else (if t116 = 2 then (posternlaw05_AluHolds.l0 k1 a0 a1 a2 y111 (y111.length : Int) (wrap64 (x17_1 + 1))) else (some false)))))) = some r := H
              have A13 := Aside0.mk A130
              clear A130
              replace H := Option.bind_eq_some_iff.mp H
              obtain ⟨⟨t118, t119⟩, A140, H⟩ := H
              replace H : (if (t115 != t118) = true then (some false) else (if (t119 != (t116 == 0)) = true then (some false) else (if t119 = true then (posternlaw05_AluHolds.l0 k1 a0 a1 a2 y111 (y111.length : Int) (wrap64 (x17_1 + 1))) else (if t116 = 2 then (posternlaw05_AluHolds.l0 k1 a0 a1 a2 y111 (y111.length : Int) (wrap64 (x17_1 + 1))) else (some false))))) = some r := H
              have A14 := Aside0.mk A140
              clear A140
              by_cases c15 : (t115 != t118) = true
              · rw [if_pos c15] at H
                have c15b0 : (t115 != t118) = true := c15
                (try (have c15b1 : decide (t115 = t118) = false := by simpa using c15))
                (try (have c15b2 : (t115 == t118) = false := by simpa using c15))
                (try (have c15b3 : ¬ (t115 = t118) := by simpa using c15))
                clear c15
                obtain rfl := Option.some.inj H
                have p114 : 0 ≤ (x17_1 : Int) := of_decide_eq_true (by first | (with_reducible assumption) | assumption)
                have q114 : x17_1 < (y111.length : Int) := of_decide_eq_true (by first | (with_reducible assumption) | assumption)
                obtain ⟨ad114, e114, hx114_0⟩ := Kd.at_bool (Kd.R_reads' HO_15.out).2.2 x17_1 p114 q114
                cases e114
                replace p114 := eq_true p114
                replace q114 := eq_true q114
                go_wp2_with (first | ((with_reducible refine gate_callee (f := 33) rfl ?_); refine goesL_ (some 26) rfl rfl Try.func33 (by kernel_rfl) rfl #[.int .i64 a0, .bool (rdOf false y111 x17_1), .int .u64 a1, .int .u64 a2] rfl (by (try simp only [List.map_toArray, List.map_cons, List.map_nil]); first | done | rfl | (simp only [List.length_drop, List.length_take]; rfl)) ?_; (with_reducible refine (alu_Holds.calls k1 a0 (rdOf false y111 x17_1) a1 a2 t115 t116 _ A12.out).mono ?_); rintro e w' ⟨rfl, ⟨nd, rfl⟩⟩; refine ⟨_, rfl, ?_⟩) | ((with_reducible refine gate_callee (f := 32) rfl ?_); refine goesL_ (some 32) rfl rfl Try.func32 (by kernel_rfl) rfl #[.bool (rdOf false y111 x17_1)] rfl (by (try simp only [List.map_toArray, List.map_cons, List.map_nil]); first | done | rfl | (simp only [List.length_drop, List.length_take]; rfl)) ?_; (with_reducible refine (posternlaw05_bits.calls (rdOf false y111 x17_1) t117 _ A13.out).mono ?_); rintro e w' ⟨rfl, ⟨nd, rfl⟩⟩; refine ⟨_, rfl, ?_⟩) | ((with_reducible refine gate_callee (f := 34) rfl ?_); refine goesL_ (some 35) rfl rfl Try.func34 (by kernel_rfl) rfl #[.int .i64 a0, .int .i64 t117, .int .u64 a1, .int .u64 a2] rfl (by (try simp only [List.map_toArray, List.map_cons, List.map_nil]); first | done | rfl | (simp only [List.length_drop, List.length_take]; rfl)) ?_; (with_reducible refine (posternref05_Holds.calls k1 a0 t117 a1 a2 t118 t119 _ A14.out).mono ?_); rintro e w' ⟨rfl, ⟨nd, rfl⟩⟩; refine ⟨_, rfl, ?_⟩))
                go_ret
                exact ⟨by first | rfl | (simp [errW_none, errW_some] <;> rfl) | (simp [*, errW_none, errW_some] <;> rfl), by repeat (first | (with_reducible first | exact HB.out | apply below_alloc | apply pw_below_drewN | apply below_drew1) | exact HB.out)⟩
              · rw [if_neg c15] at H
                have c15b0 : (t115 != t118) = false := by simpa using c15
                (try (have c15b1 : decide (t115 = t118) = true := by simpa using c15))
                (try (have c15b2 : (t115 == t118) = true := by simpa using c15))
                clear c15
                by_cases c16 : (t119 != (t116 == 0)) = true
                · rw [if_pos c16] at H
                  have c16b0 : (t119 != (t116 == 0)) = true := c16
                  (try (have c16b1 : decide (t119 = (t116 == 0)) = false := by simpa using c16))
                  (try (have c16b2 : (t119 == (t116 == 0)) = false := by simpa using c16))
                  (try (have c16b3 : ¬ (t119 = (t116 == 0)) := by simpa using c16))
                  clear c16
                  obtain rfl := Option.some.inj H
                  have p114 : 0 ≤ (x17_1 : Int) := of_decide_eq_true (by first | (with_reducible assumption) | assumption)
                  have q114 : x17_1 < (y111.length : Int) := of_decide_eq_true (by first | (with_reducible assumption) | assumption)
                  obtain ⟨ad114, e114, hx114_0⟩ := Kd.at_bool (Kd.R_reads' HO_15.out).2.2 x17_1 p114 q114
                  cases e114
                  replace p114 := eq_true p114
                  replace q114 := eq_true q114
                  go_wp2_with (first | ((with_reducible refine gate_callee (f := 33) rfl ?_); refine goesL_ (some 26) rfl rfl Try.func33 (by kernel_rfl) rfl #[.int .i64 a0, .bool (rdOf false y111 x17_1), .int .u64 a1, .int .u64 a2] rfl (by (try simp only [List.map_toArray, List.map_cons, List.map_nil]); first | done | rfl | (simp only [List.length_drop, List.length_take]; rfl)) ?_; (with_reducible refine (alu_Holds.calls k1 a0 (rdOf false y111 x17_1) a1 a2 t115 t116 _ A12.out).mono ?_); rintro e w' ⟨rfl, ⟨nd, rfl⟩⟩; refine ⟨_, rfl, ?_⟩) | ((with_reducible refine gate_callee (f := 32) rfl ?_); refine goesL_ (some 32) rfl rfl Try.func32 (by kernel_rfl) rfl #[.bool (rdOf false y111 x17_1)] rfl (by (try simp only [List.map_toArray, List.map_cons, List.map_nil]); first | done | rfl | (simp only [List.length_drop, List.length_take]; rfl)) ?_; (with_reducible refine (posternlaw05_bits.calls (rdOf false y111 x17_1) t117 _ A13.out).mono ?_); rintro e w' ⟨rfl, ⟨nd, rfl⟩⟩; refine ⟨_, rfl, ?_⟩) | ((with_reducible refine gate_callee (f := 34) rfl ?_); refine goesL_ (some 35) rfl rfl Try.func34 (by kernel_rfl) rfl #[.int .i64 a0, .int .i64 t117, .int .u64 a1, .int .u64 a2] rfl (by (try simp only [List.map_toArray, List.map_cons, List.map_nil]); first | done | rfl | (simp only [List.length_drop, List.length_take]; rfl)) ?_; (with_reducible refine (posternref05_Holds.calls k1 a0 t117 a1 a2 t118 t119 _ A14.out).mono ?_); rintro e w' ⟨rfl, ⟨nd, rfl⟩⟩; refine ⟨_, rfl, ?_⟩))
                  go_ret
                  exact ⟨by first | rfl | (simp [errW_none, errW_some] <;> rfl) | (simp [*, errW_none, errW_some] <;> rfl), by repeat (first | (with_reducible first | exact HB.out | apply below_alloc | apply pw_below_drewN | apply below_drew1) | exact HB.out)⟩
                · rw [if_neg c16] at H
                  have c16b0 : (t119 != (t116 == 0)) = false := by simpa using c16
                  (try (have c16b1 : decide (t119 = (t116 == 0)) = true := by simpa using c16))
                  (try (have c16b2 : (t119 == (t116 == 0)) = true := by simpa using c16))
                  clear c16
                  by_cases c17 : t119 = true
                  · subst c17
                    have H1 : (posternlaw05_AluHolds.l0 k1 a0 a1 a2 y111 (y111.length : Int) (wrap64 (x17_1 + 1))) = some r := by rw [if_pos rfl] at H; exact H
                    clear H
                    have H := H1
                    clear H1
                    have H' := Aside0.mk H
                    clear H
                    have p114 : 0 ≤ (x17_1 : Int) := of_decide_eq_true (by first | (with_reducible assumption) | assumption)
                    have q114 : x17_1 < (y111.length : Int) := of_decide_eq_true (by first | (with_reducible assumption) | assumption)
                    obtain ⟨ad114, e114, hx114_0⟩ := Kd.at_bool (Kd.R_reads' HO_15.out).2.2 x17_1 p114 q114
                    cases e114
                    replace p114 := eq_true p114
                    replace q114 := eq_true q114
                    go_wp2_with (first | ((with_reducible refine gate_callee (f := 33) rfl ?_); refine goesL_ (some 26) rfl rfl Try.func33 (by kernel_rfl) rfl #[.int .i64 a0, .bool (rdOf false y111 x17_1), .int .u64 a1, .int .u64 a2] rfl (by (try simp only [List.map_toArray, List.map_cons, List.map_nil]); first | done | rfl | (simp only [List.length_drop, List.length_take]; rfl)) ?_; (with_reducible refine (alu_Holds.calls k1 a0 (rdOf false y111 x17_1) a1 a2 t115 t116 _ A12.out).mono ?_); rintro e w' ⟨rfl, ⟨nd, rfl⟩⟩; refine ⟨_, rfl, ?_⟩) | ((with_reducible refine gate_callee (f := 32) rfl ?_); refine goesL_ (some 32) rfl rfl Try.func32 (by kernel_rfl) rfl #[.bool (rdOf false y111 x17_1)] rfl (by (try simp only [List.map_toArray, List.map_cons, List.map_nil]); first | done | rfl | (simp only [List.length_drop, List.length_take]; rfl)) ?_; (with_reducible refine (posternlaw05_bits.calls (rdOf false y111 x17_1) t117 _ A13.out).mono ?_); rintro e w' ⟨rfl, ⟨nd, rfl⟩⟩; refine ⟨_, rfl, ?_⟩) | ((with_reducible refine gate_callee (f := 34) rfl ?_); refine goesL_ (some 35) rfl rfl Try.func34 (by kernel_rfl) rfl #[.int .i64 a0, .int .i64 t117, .int .u64 a1, .int .u64 a2] rfl (by (try simp only [List.map_toArray, List.map_cons, List.map_nil]); first | done | rfl | (simp only [List.length_drop, List.length_take]; rfl)) ?_; (with_reducible refine (posternref05_Holds.calls k1 a0 t117 a1 a2 t118 true _ A14.out).mono ?_); rintro e w' ⟨rfl, ⟨nd, rfl⟩⟩; refine ⟨_, rfl, ?_⟩))
                    go_roundg k1
                    case measure => have := HK1.out; omega
                    case rel => exact ⟨(wrap64 (x17_1 + 1)), (by first | rfl | (simp; done) | (simp [*]; done)), H', ⟨by have := HK1.out; omega⟩, ⟨by (with_reducible repeat (first | apply Kd.R_alloc | apply Kd.R_drewN | apply Kd.R_drew)); exact HO_15.out⟩, ⟨by repeat (first | (with_reducible first | exact HB.out | apply below_alloc | apply pw_below_drewN | apply below_drew1) | exact HB.out)⟩⟩
                  · replace c17 := Bool.eq_false_iff.mpr c17
                    subst c17
                    have H1 : (if t116 = 2 then (posternlaw05_AluHolds.l0 k1 a0 a1 a2 y111 (y111.length : Int) (wrap64 (x17_1 + 1))) else (some false)) = some r := by rw [if_neg (show ¬ (false = true) by decide)] at H; exact H
                    clear H
                    have H := H1
                    clear H1
                    by_cases c18 : t116 = 2
                    · rw [if_pos c18] at H
                      have c18b0 : (t116 == 2) = true := beq_iff_eq.mpr c18
                      have c18b1 : (t116 != 2) = false := bne_eq_false_iff_eq.mpr c18
                      clear c18
                      have H' := Aside0.mk H
                      clear H
                      have p114 : 0 ≤ (x17_1 : Int) := of_decide_eq_true (by first | (with_reducible assumption) | assumption)
                      have q114 : x17_1 < (y111.length : Int) := of_decide_eq_true (by first | (with_reducible assumption) | assumption)
                      obtain ⟨ad114, e114, hx114_0⟩ := Kd.at_bool (Kd.R_reads' HO_15.out).2.2 x17_1 p114 q114
                      cases e114
                      replace p114 := eq_true p114
                      replace q114 := eq_true q114
                      go_wp2_with (first | ((with_reducible refine gate_callee (f := 33) rfl ?_); refine goesL_ (some 26) rfl rfl Try.func33 (by kernel_rfl) rfl #[.int .i64 a0, .bool (rdOf false y111 x17_1), .int .u64 a1, .int .u64 a2] rfl (by (try simp only [List.map_toArray, List.map_cons, List.map_nil]); first | done | rfl | (simp only [List.length_drop, List.length_take]; rfl)) ?_; (with_reducible refine (alu_Holds.calls k1 a0 (rdOf false y111 x17_1) a1 a2 t115 t116 _ A12.out).mono ?_); rintro e w' ⟨rfl, ⟨nd, rfl⟩⟩; refine ⟨_, rfl, ?_⟩) | ((with_reducible refine gate_callee (f := 32) rfl ?_); refine goesL_ (some 32) rfl rfl Try.func32 (by kernel_rfl) rfl #[.bool (rdOf false y111 x17_1)] rfl (by (try simp only [List.map_toArray, List.map_cons, List.map_nil]); first | done | rfl | (simp only [List.length_drop, List.length_take]; rfl)) ?_; (with_reducible refine (posternlaw05_bits.calls (rdOf false y111 x17_1) t117 _ A13.out).mono ?_); rintro e w' ⟨rfl, ⟨nd, rfl⟩⟩; refine ⟨_, rfl, ?_⟩) | ((with_reducible refine gate_callee (f := 34) rfl ?_); refine goesL_ (some 35) rfl rfl Try.func34 (by kernel_rfl) rfl #[.int .i64 a0, .int .i64 t117, .int .u64 a1, .int .u64 a2] rfl (by (try simp only [List.map_toArray, List.map_cons, List.map_nil]); first | done | rfl | (simp only [List.length_drop, List.length_take]; rfl)) ?_; (with_reducible refine (posternref05_Holds.calls k1 a0 t117 a1 a2 t118 false _ A14.out).mono ?_); rintro e w' ⟨rfl, ⟨nd, rfl⟩⟩; refine ⟨_, rfl, ?_⟩))
                      go_roundg k1
                      case measure => have := HK1.out; omega
                      case rel => exact ⟨(wrap64 (x17_1 + 1)), (by first | rfl | (simp; done) | (simp [*]; done)), H', ⟨by have := HK1.out; omega⟩, ⟨by (with_reducible repeat (first | apply Kd.R_alloc | apply Kd.R_drewN | apply Kd.R_drew)); exact HO_15.out⟩, ⟨by repeat (first | (with_reducible first | exact HB.out | apply below_alloc | apply pw_below_drewN | apply below_drew1) | exact HB.out)⟩⟩
                    · rw [if_neg c18] at H
                      have c18b0 : (t116 == 2) = false := beq_eq_false_iff_ne.mpr c18
                      have c18b1 : (t116 != 2) = true := bne_iff_ne.mpr c18
                      obtain rfl := Option.some.inj H
                      have p114 : 0 ≤ (x17_1 : Int) := of_decide_eq_true (by first | (with_reducible assumption) | assumption)
                      have q114 : x17_1 < (y111.length : Int) := of_decide_eq_true (by first | (with_reducible assumption) | assumption)
                      obtain ⟨ad114, e114, hx114_0⟩ := Kd.at_bool (Kd.R_reads' HO_15.out).2.2 x17_1 p114 q114
                      cases e114
                      replace p114 := eq_true p114
                      replace q114 := eq_true q114
                      go_wp2_with (first | ((with_reducible refine gate_callee (f := 33) rfl ?_); refine goesL_ (some 26) rfl rfl Try.func33 (by kernel_rfl) rfl #[.int .i64 a0, .bool (rdOf false y111 x17_1), .int .u64 a1, .int .u64 a2] rfl (by (try simp only [List.map_toArray, List.map_cons, List.map_nil]); first | done | rfl | (simp only [List.length_drop, List.length_take]; rfl)) ?_; (with_reducible refine (alu_Holds.calls k1 a0 (rdOf false y111 x17_1) a1 a2 t115 t116 _ A12.out).mono ?_); rintro e w' ⟨rfl, ⟨nd, rfl⟩⟩; refine ⟨_, rfl, ?_⟩) | ((with_reducible refine gate_callee (f := 32) rfl ?_); refine goesL_ (some 32) rfl rfl Try.func32 (by kernel_rfl) rfl #[.bool (rdOf false y111 x17_1)] rfl (by (try simp only [List.map_toArray, List.map_cons, List.map_nil]); first | done | rfl | (simp only [List.length_drop, List.length_take]; rfl)) ?_; (with_reducible refine (posternlaw05_bits.calls (rdOf false y111 x17_1) t117 _ A13.out).mono ?_); rintro e w' ⟨rfl, ⟨nd, rfl⟩⟩; refine ⟨_, rfl, ?_⟩) | ((with_reducible refine gate_callee (f := 34) rfl ?_); refine goesL_ (some 35) rfl rfl Try.func34 (by kernel_rfl) rfl #[.int .i64 a0, .int .i64 t117, .int .u64 a1, .int .u64 a2] rfl (by (try simp only [List.map_toArray, List.map_cons, List.map_nil]); first | done | rfl | (simp only [List.length_drop, List.length_take]; rfl)) ?_; (with_reducible refine (posternref05_Holds.calls k1 a0 t117 a1 a2 t118 false _ A14.out).mono ?_); rintro e w' ⟨rfl, ⟨nd, rfl⟩⟩; refine ⟨_, rfl, ?_⟩))
                      go_ret
                      exact ⟨by first | rfl | (simp [errW_none, errW_some] <;> rfl) | (simp [*, errW_none, errW_some] <;> rfl), by repeat (first | (with_reducible first | exact HB.out | apply below_alloc | apply pw_below_drewN | apply below_drew1) | exact HB.out)⟩
            · rw [if_neg c11] at H
              exact absurd H (by simp)
          · rw [if_neg c10] at H
            exact absurd H (by simp)
        · rw [if_neg c9] at H
          have c9b0 : decide (x17_1 < (y111.length : Int)) = false := decide_eq_false c9
          clear c9
          obtain rfl := Option.some.inj H
          go_wp2
          go_ret
          exact ⟨by first | rfl | (simp [errW_none, errW_some] <;> rfl) | (simp [*, errW_none, errW_some] <;> rfl), by repeat (first | (with_reducible first | exact HB.out | apply below_alloc | apply pw_below_drewN | apply below_drew1) | exact HB.out)⟩
  · replace c5 := Bool.eq_false_iff.mpr c5
    subst c5
    have H1 : (some false) = some r := by rw [if_neg (show ¬ (false = true) by decide)] at H; exact H
    clear H
    have H := H1
    clear H1
    obtain rfl := Option.some.inj H
    go_enter Try.func8, Try.ntmps8
    go_wp2_with (first | ((with_reducible refine gate_callee (f := 29) rfl ?_); refine goesL_ (some 13) rfl rfl Try.func29 (by kernel_rfl) rfl #[] rfl (by (try simp only [List.map_toArray, List.map_cons, List.map_nil]); first | done | rfl | (simp only [List.length_drop, List.length_take]; rfl)) ?_; (with_reducible refine (posternlaw05_first.calls k  false _ A4.out).mono ?_); rintro e w' ⟨rfl, ⟨nd, rfl⟩⟩; refine ⟨_, rfl, ?_⟩))
    go_ret
    exact ⟨by first | rfl | (simp [errW_none, errW_some] <;> rfl) | (simp [*, errW_none, errW_some] <;> rfl), by repeat (first | (with_reducible first | exact HB.out | apply below_alloc | apply pw_below_drewN | apply below_drew1) | exact HB.out)⟩

/-- THE ONE PURE STATEMENT of posternlaw05_AluHolds: yours. -/
def posternlaw05_AluHolds.Pure : Prop := ∀ (a0 : Int) (a1 : Int) (a2 : Int), (Lit.int .i64 a0).wf = true → (Lit.int .u64 a1).wf = true → (Lit.int .u64 a2).wf = true → ∃ k, posternlaw05_AluHolds.f k a0 a1 a2 = some true
theorem posternlaw05_AluHolds.walk (P : posternlaw05_AluHolds.Pure) (a0 : Int) (a1 : Int) (a2 : Int) (w : World) (w0 : (Lit.int .i64 a0).wf = true) (w1 : (Lit.int .u64 a1).wf = true) (w2 : (Lit.int .u64 a2).wf = true) :
    Calls Try.prog 8 #[.int .i64 a0, .int .u64 a1, .int .u64 a2] w fun e w' => e = .returned (.bool true) ∧ Below w.heap.size w w' := by
  obtain ⟨k, h⟩ := P a0 a1 a2 w0 w1 w2
  refine (posternlaw05_AluHolds.calls k a0 a1 a2 true w h).mono ?_
  rintro e w' ⟨rfl, hd⟩
  exact ⟨rfl, hd⟩

end Go.Proofs.Ytpkgegklpbholaa.PAluHolds
