-- PRINTED BY print.sh 35421559b90ae4d0a3588c463048766b98c2df88dd9212a6774a882060cdf62d: not written by this session
import Derived.Test.YtpkgegklpbholaaPAluOperandx0
namespace Go.Proofs.Ytpkgegklpbholaa.PAluOperand
open Go.RowKit Go.Proofs.YtpkgegklpbholaaW.PrintWords Go.Proofs.YtpkgegklpbholaaW.PrintLast Go.Proofs.YtpkgegklpbholaaW.PrintMore
attribute [local go_sem] max2_int min2_int max_two min_two max_three min_three max_four min_four   -- for this text's walks alone
set_option linter.unusedVariables false
set_option linter.unusedSimpArgs false

/-! ### alu_do: function 43 -/
def alu_do.f (a0 : Int) (a1 : Int) (a2 : Int) (a3 : Int) : Option (Int × Int) := if a0 = 0 then (some (IntKind.u64.wrap (a1 + a2), 0)) else (if a0 = 16 then (some (IntKind.u64.wrap (a1 - a2), 0)) else (if a0 = 32 then (some (IntKind.u64.wrap (a1 * a2), 0)) else (if a0 = 48 then (if a2 = 0 then (some (0, 0)) else (some (IntKind.u64.wrap (Int.tdiv a1 a2), 0))) else (if a0 = 64 then (some (Go.bits .or .u64 a1 a2, 0)) else (if a0 = 80 then (some (Go.bits .and .u64 a1 a2, 0)) else (if a0 = 96 then (if 0 ≤ (Go.bits .and .u64 a2 a3) then (some (shl .u64 a1 (Go.bits .and .u64 a2 a3), 0)) else (none)) else (if a0 = 112 then (if 0 ≤ (Go.bits .and .u64 a2 a3) then (some (shr .u64 a1 (Go.bits .and .u64 a2 a3), 0)) else (none)) else (if a0 = 128 then (some (IntKind.u64.wrap (-a1), 0)) else (if a0 = 144 then (if a2 = 0 then (some (a1, 0)) else (some (Int.tmod a1 a2, 0))) else (if a0 = 160 then (some (Go.bits .xor .u64 a1 a2, 0)) else (if a0 = 176 then (some (a2, 0)) else (if a0 = 192 then (if a3 = 31 then (if 0 ≤ (Go.bits .and .u64 a2 a3) then (some ((shr .i32 (wrap32 ((a1) % 4294967296)) (Go.bits .and .u64 a2 a3)) % 4294967296, 0)) else (none)) else (if 0 ≤ (Go.bits .and .u64 a2 a3) then (some (IntKind.u64.wrap (shr .i64 (wrap64 (a1)) (Go.bits .and .u64 a2 a3)), 0)) else (none))) else (some (0, 2))))))))))))))
set_option maxHeartbeats 8000000 in
set_option maxRecDepth 100000 in
theorem alu_do.calls (a0 : Int) (a1 : Int) (a2 : Int) (a3 : Int) (r1 : Int) (r2 : Int) (w : World) (h : alu_do.f a0 a1 a2 a3 = some (r1, r2)) :
    Calls Try.prog 43 #[.int .i64 a0, .int .u64 a1, .int .u64 a2, .int .u64 a3] w fun e w' => e = .returned (.tuple #[.int .u64 r1, .int .i64 r2]) ∧ Drawn0 w w' := by
  have H : (if a0 = 0 then (some (IntKind.u64.wrap (a1 + a2), 0)) else (if a0 = 16 then (some (IntKind.u64.wrap (a1 - a2), 0)) else (if a0 = 32 then (some (IntKind.u64.wrap (a1 * a2), 0)) else (if a0 = 48 then (if a2 = 0 then (some (0, 0)) else (some (IntKind.u64.wrap (Int.tdiv a1 a2), 0))) else (if a0 = 64 then (some (Go.bits .or .u64 a1 a2, 0)) else (if a0 = 80 then (some (Go.bits .and .u64 a1 a2, 0)) else (if a0 = 96 then (if 0 ≤ (Go.bits .and .u64 a2 a3) then (some (shl .u64 a1 (Go.bits .and .u64 a2 a3), 0)) else (none)) else (if a0 = 112 then (if 0 ≤ (Go.bits .and .u64 a2 a3) then (some (shr .u64 a1 (Go.bits .and .u64 a2 a3), 0)) else (none)) else (if a0 = 128 then (some (IntKind.u64.wrap (-a1), 0)) else (if a0 = 144 then (if a2 = 0 then (some (a1, 0)) else (some (Int.tmod a1 a2, 0))) else (if a0 = 160 then (some (Go.bits .xor .u64 a1 a2, 0)) else (if a0 = 176 then (some (a2, 0)) else (if a0 = 192 then (if a3 = 31 then (if 0 ≤ (Go.bits .and .u64 a2 a3) then (some ((shr .i32 (wrap32 ((a1) % 4294967296)) (Go.bits .and .u64 a2 a3)) % 4294967296, 0)) else (none)) else (if 0 ≤ (Go.bits .and .u64 a2 a3) then (some (IntKind.u64.wrap (shr .i64 (wrap64 (a1)) (Go.bits .and .u64 a2 a3)), 0)) else (none))) else (some (0, 2))))))))))))))) = some (r1, r2) := h
  clear h
  by_cases c5 : a0 = 0
  · rw [if_pos c5] at H
    have c5b0 : (a0 == 0) = true := beq_iff_eq.mpr c5
    have c5b1 : (a0 != 0) = false := bne_eq_false_iff_eq.mpr c5
    clear c5
    simp only [Option.some.injEq, Prod.mk.injEq] at H
    obtain ⟨rfl, rfl⟩ := H
    go_enter Try.func43, Try.ntmps43
    go_wp2
    go_ret2
    exact ⟨by first | rfl | (simp; done) | (simp [*]; done), by repeat (first | exact Drawn0.refl _ | apply Drawn0.step)⟩
  · rw [if_neg c5] at H
    have c5b0 : (a0 == 0) = false := beq_eq_false_iff_ne.mpr c5
    have c5b1 : (a0 != 0) = true := bne_iff_ne.mpr c5
    by_cases c6 : a0 = 16
    · rw [if_pos c6] at H
      have c6b0 : (a0 == 16) = true := beq_iff_eq.mpr c6
      have c6b1 : (a0 != 16) = false := bne_eq_false_iff_eq.mpr c6
      clear c6
      simp only [Option.some.injEq, Prod.mk.injEq] at H
      obtain ⟨rfl, rfl⟩ := H
      go_enter Try.func43, Try.ntmps43
      go_wp2
      go_ret2
      exact ⟨by first | rfl | (simp; done) | (simp [*]; done), by repeat (first | exact Drawn0.refl _ | apply Drawn0.step)⟩
    · rw [if_neg c6] at H
      have c6b0 : (a0 == 16) = false := beq_eq_false_iff_ne.mpr c6
      have c6b1 : (a0 != 16) = true := bne_iff_ne.mpr c6
      by_cases c7 : a0 = 32
      · rw [if_pos c7] at H
        have c7b0 : (a0 == 32) = true := beq_iff_eq.mpr c7
        have c7b1 : (a0 != 32) = false := bne_eq_false_iff_eq.mpr c7
        clear c7
        simp only [Option.some.injEq, Prod.mk.injEq] at H
        obtain ⟨rfl, rfl⟩ := H
        go_enter Try.func43, Try.ntmps43
        go_wp2
        go_ret2
        exact ⟨by first | rfl | (simp; done) | (simp [*]; done), by repeat (first | exact Drawn0.refl _ | apply Drawn0.step)⟩
      · rw [if_neg c7] at H
        have c7b0 : (a0 == 32) = false := beq_eq_false_iff_ne.mpr c7
        have c7b1 : (a0 != 32) = true := bne_iff_ne.mpr c7
        by_cases c8 : a0 = 48
        · rw [if_pos c8] at H
          have c8b0 : (a0 == 48) = true := beq_iff_eq.mpr c8
          have c8b1 : (a0 != 48) = false := bne_eq_false_iff_eq.mpr c8
          clear c8
          by_cases c9 : a2 = 0
          · rw [if_pos c9] at H
            have c9b0 : (a2 == 0) = true := beq_iff_eq.mpr c9
            have c9b1 : (a2 != 0) = false := bne_eq_false_iff_eq.mpr c9
            clear c9
            simp only [Option.some.injEq, Prod.mk.injEq] at H
            obtain ⟨rfl, rfl⟩ := H
            go_enter Try.func43, Try.ntmps43
            go_wp2
            go_ret2
            exact ⟨by first | rfl | (simp; done) | (simp [*]; done), by repeat (first | exact Drawn0.refl _ | apply Drawn0.step)⟩
          · rw [if_neg c9] at H
            have c9b0 : (a2 == 0) = false := beq_eq_false_iff_ne.mpr c9
            have c9b1 : (a2 != 0) = true := bne_iff_ne.mpr c9
            simp only [Option.some.injEq, Prod.mk.injEq] at H
            obtain ⟨rfl, rfl⟩ := H
            go_enter Try.func43, Try.ntmps43
            go_wp2
            go_ret2
            exact ⟨by first | rfl | (simp; done) | (simp [*]; done), by repeat (first | exact Drawn0.refl _ | apply Drawn0.step)⟩
        · rw [if_neg c8] at H
          have c8b0 : (a0 == 48) = false := beq_eq_false_iff_ne.mpr c8
          have c8b1 : (a0 != 48) = true := bne_iff_ne.mpr c8
          by_cases c10 : a0 = 64
          · rw [if_pos c10] at H
            have c10b0 : (a0 == 64) = true := beq_iff_eq.mpr c10
            have c10b1 : (a0 != 64) = false := bne_eq_false_iff_eq.mpr c10
            clear c10
            simp only [Option.some.injEq, Prod.mk.injEq] at H
            obtain ⟨rfl, rfl⟩ := H
            go_enter Try.func43, Try.ntmps43
            go_wp2
            go_ret2
            exact ⟨by first | rfl | (simp; done) | (simp [*]; done), by repeat (first | exact Drawn0.refl _ | apply Drawn0.step)⟩
          · rw [if_neg c10] at H
            have c10b0 : (a0 == 64) = false := beq_eq_false_iff_ne.mpr c10
            have c10b1 : (a0 != 64) = true := bne_iff_ne.mpr c10
            by_cases c11 : a0 = 80
            · rw [if_pos c11] at H
              have c11b0 : (a0 == 80) = true := beq_iff_eq.mpr c11
              have c11b1 : (a0 != 80) = false := bne_eq_false_iff_eq.mpr c11
              clear c11
              simp only [Option.some.injEq, Prod.mk.injEq] at H
              obtain ⟨rfl, rfl⟩ := H
              go_enter Try.func43, Try.ntmps43
              go_wp2
              go_ret2
              exact ⟨by first | rfl | (simp; done) | (simp [*]; done), by repeat (first | exact Drawn0.refl _ | apply Drawn0.step)⟩
            · rw [if_neg c11] at H
              have c11b0 : (a0 == 80) = false := beq_eq_false_iff_ne.mpr c11
              have c11b1 : (a0 != 80) = true := bne_iff_ne.mpr c11
              by_cases c12 : a0 = 96
              · rw [if_pos c12] at H
                have c12b0 : (a0 == 96) = true := beq_iff_eq.mpr c12
                have c12b1 : (a0 != 96) = false := bne_eq_false_iff_eq.mpr c12
                clear c12
                by_cases c13 : 0 ≤ (Go.bits .and .u64 a2 a3)
                · rw [if_pos c13] at H
                  have c13b0 := eq_true c13
                  have c13b1 : decide (0 ≤ (Go.bits .and .u64 a2 a3)) = true := decide_eq_true c13
                  clear c13
                  obtain ⟨ji14, hji14⟩ : ∃ j_ : Int, (shl .u64 a1 (Go.bits .and .u64 a2 a3)) = j_ := ⟨_, rfl⟩
                  replace H : (some (ji14, 0)) = some (r1, r2) := by first | (rw [hji14] at H; exact H) | (simp only [hji14] at H ⊢; exact H)
                  have hji14_ : (IntKind.u64.wrap (a1 * 2 ^ min (Go.bits .and .u64 a2 a3).toNat 64)) = ji14 := hji14
                  have hji14z : (Go.bits .and .u64 a2 a3) ≤ 64 → (IntKind.u64.wrap (a1 * 2 ^ (Go.bits .and .u64 a2 a3).toNat)) = ji14 := shl_small hji14
                  simp only [Option.some.injEq, Prod.mk.injEq] at H
                  obtain ⟨rfl, rfl⟩ := H
                  go_enter Try.func43, Try.ntmps43
                  go_wp2
                  go_ret2
                  exact ⟨by first | rfl | (simp; done) | (simp only [← hji14] <;> (first | rfl | simp)) | (simp [*]; done), by repeat (first | exact Drawn0.refl _ | apply Drawn0.step)⟩
                · rw [if_neg c13] at H
                  exact absurd H (by simp)
              · rw [if_neg c12] at H
                have c12b0 : (a0 == 96) = false := beq_eq_false_iff_ne.mpr c12
                have c12b1 : (a0 != 96) = true := bne_iff_ne.mpr c12
                by_cases c15 : a0 = 112
                · rw [if_pos c15] at H
                  have c15b0 : (a0 == 112) = true := beq_iff_eq.mpr c15
                  have c15b1 : (a0 != 112) = false := bne_eq_false_iff_eq.mpr c15
                  clear c15
                  by_cases c16 : 0 ≤ (Go.bits .and .u64 a2 a3)
                  · rw [if_pos c16] at H
                    have c16b0 := eq_true c16
                    have c16b1 : decide (0 ≤ (Go.bits .and .u64 a2 a3)) = true := decide_eq_true c16
                    clear c16
                    obtain ⟨ji17, hji17⟩ : ∃ j_ : Int, (shr .u64 a1 (Go.bits .and .u64 a2 a3)) = j_ := ⟨_, rfl⟩
                    replace H : (some (ji17, 0)) = some (r1, r2) := by first | (rw [hji17] at H; exact H) | (simp only [hji17] at H ⊢; exact H)
                    have hji17_ : (a1 / 2 ^ min (Go.bits .and .u64 a2 a3).toNat 64) = ji17 := hji17
                    have hji17z : (Go.bits .and .u64 a2 a3) ≤ 64 → (a1 / 2 ^ (Go.bits .and .u64 a2 a3).toNat) = ji17 := shr_small hji17
                    simp only [Option.some.injEq, Prod.mk.injEq] at H
                    obtain ⟨rfl, rfl⟩ := H
                    go_enter Try.func43, Try.ntmps43
                    go_wp2
                    go_ret2
                    exact ⟨by first | rfl | (simp; done) | (simp only [← hji17] <;> (first | rfl | simp)) | (simp [*]; done), by repeat (first | exact Drawn0.refl _ | apply Drawn0.step)⟩
                  · rw [if_neg c16] at H
                    exact absurd H (by simp)
                · rw [if_neg c15] at H
                  have c15b0 : (a0 == 112) = false := beq_eq_false_iff_ne.mpr c15
                  have c15b1 : (a0 != 112) = true := bne_iff_ne.mpr c15
                  by_cases c18 : a0 = 128
                  · rw [if_pos c18] at H
                    have c18b0 : (a0 == 128) = true := beq_iff_eq.mpr c18
                    have c18b1 : (a0 != 128) = false := bne_eq_false_iff_eq.mpr c18
                    clear c18
                    simp only [Option.some.injEq, Prod.mk.injEq] at H
                    obtain ⟨rfl, rfl⟩ := H
                    go_enter Try.func43, Try.ntmps43
                    go_wp2
                    go_ret2
                    exact ⟨by first | rfl | (simp; done) | (simp [*]; done), by repeat (first | exact Drawn0.refl _ | apply Drawn0.step)⟩
                  · rw [if_neg c18] at H
                    have c18b0 : (a0 == 128) = false := beq_eq_false_iff_ne.mpr c18
                    have c18b1 : (a0 != 128) = true := bne_iff_ne.mpr c18
                    by_cases c19 : a0 = 144
                    · rw [if_pos c19] at H
                      have c19b0 : (a0 == 144) = true := beq_iff_eq.mpr c19
                      have c19b1 : (a0 != 144) = false := bne_eq_false_iff_eq.mpr c19
                      clear c19
                      by_cases c20 : a2 = 0
                      · rw [if_pos c20] at H
                        have c20b0 : (a2 == 0) = true := beq_iff_eq.mpr c20
                        have c20b1 : (a2 != 0) = false := bne_eq_false_iff_eq.mpr c20
                        clear c20
                        simp only [Option.some.injEq, Prod.mk.injEq] at H
                        obtain ⟨rfl, rfl⟩ := H
                        go_enter Try.func43, Try.ntmps43
                        go_wp2
                        go_ret2
                        exact ⟨by first | rfl | (simp; done) | (simp [*]; done), by repeat (first | exact Drawn0.refl _ | apply Drawn0.step)⟩
                      · rw [if_neg c20] at H
                        have c20b0 : (a2 == 0) = false := beq_eq_false_iff_ne.mpr c20
                        have c20b1 : (a2 != 0) = true := bne_iff_ne.mpr c20
                        simp only [Option.some.injEq, Prod.mk.injEq] at H
                        obtain ⟨rfl, rfl⟩ := H
                        go_enter Try.func43, Try.ntmps43
                        go_wp2
                        go_ret2
                        exact ⟨by first | rfl | (simp; done) | (simp [*]; done), by repeat (first | exact Drawn0.refl _ | apply Drawn0.step)⟩
                    · rw [if_neg c19] at H
                      have c19b0 : (a0 == 144) = false := beq_eq_false_iff_ne.mpr c19
                      have c19b1 : (a0 != 144) = true := bne_iff_ne.mpr c19
                      by_cases c21 : a0 = 160
                      · rw [if_pos c21] at H
                        have c21b0 : (a0 == 160) = true := beq_iff_eq.mpr c21
                        have c21b1 : (a0 != 160) = false := bne_eq_false_iff_eq.mpr c21
                        clear c21
                        simp only [Option.some.injEq, Prod.mk.injEq] at H
                        obtain ⟨rfl, rfl⟩ := H
                        go_enter Try.func43, Try.ntmps43
                        go_wp2
                        go_ret2
                        exact ⟨by first | rfl | (simp; done) | (simp [*]; done), by repeat (first | exact Drawn0.refl _ | apply Drawn0.step)⟩
                      · rw [if_neg c21] at H
                        have c21b0 : (a0 == 160) = false := beq_eq_false_iff_ne.mpr c21
                        have c21b1 : (a0 != 160) = true := bne_iff_ne.mpr c21
                        by_cases c22 : a0 = 176
                        · rw [if_pos c22] at H
                          have c22b0 : (a0 == 176) = true := beq_iff_eq.mpr c22
                          have c22b1 : (a0 != 176) = false := bne_eq_false_iff_eq.mpr c22
                          clear c22
                          simp only [Option.some.injEq, Prod.mk.injEq] at H
                          obtain ⟨rfl, rfl⟩ := H
                          go_enter Try.func43, Try.ntmps43
                          go_wp2
                          go_ret2
                          exact ⟨by first | rfl | (simp; done) | (simp [*]; done), by repeat (first | exact Drawn0.refl _ | apply Drawn0.step)⟩
                        · rw [if_neg c22] at H
                          have c22b0 : (a0 == 176) = false := beq_eq_false_iff_ne.mpr c22
                          have c22b1 : (a0 != 176) = true := bne_iff_ne.mpr c22
                          by_cases c23 : a0 = 192
                          · rw [if_pos c23] at H
                            have c23b0 : (a0 == 192) = true := beq_iff_eq.mpr c23
                            have c23b1 : (a0 != 192) = false := bne_eq_false_iff_eq.mpr c23
                            clear c23
                            by_cases c24 : a3 = 31
                            · rw [if_pos c24] at H
                              have c24b0 : (a3 == 31) = true := beq_iff_eq.mpr c24
                              have c24b1 : (a3 != 31) = false := bne_eq_false_iff_eq.mpr c24
                              clear c24
                              by_cases c25 : 0 ≤ (Go.bits .and .u64 a2 a3)
                              · rw [if_pos c25] at H
                                have c25b0 := eq_true c25
                                have c25b1 : decide (0 ≤ (Go.bits .and .u64 a2 a3)) = true := decide_eq_true c25
                                clear c25
                                obtain ⟨ji26, hji26⟩ : ∃ j_ : Int, (shr .i32 (wrap32 ((a1) % 4294967296)) (Go.bits .and .u64 a2 a3)) = j_ := ⟨_, rfl⟩
                                replace H : (some ((ji26) % 4294967296, 0)) = some (r1, r2) := by first | (rw [hji26] at H; exact H) | (simp only [hji26] at H ⊢; exact H)
                                have hji26_ : ((wrap32 ((a1) % 4294967296)) / 2 ^ min (Go.bits .and .u64 a2 a3).toNat 32) = ji26 := hji26
                                have hji26z : (Go.bits .and .u64 a2 a3) ≤ 32 → ((wrap32 ((a1) % 4294967296)) / 2 ^ (Go.bits .and .u64 a2 a3).toNat) = ji26 := shr_small hji26
                                simp only [Option.some.injEq, Prod.mk.injEq] at H
                                obtain ⟨rfl, rfl⟩ := H
                                go_enter Try.func43, Try.ntmps43
                                go_wp2
                                go_ret2
                                exact ⟨by first | rfl | (simp; done) | (simp only [← hji26] <;> (first | rfl | simp)) | (simp [*]; done), by repeat (first | exact Drawn0.refl _ | apply Drawn0.step)⟩
                              · rw [if_neg c25] at H
                                exact absurd H (by simp)
                            · rw [if_neg c24] at H
                              have c24b0 : (a3 == 31) = false := beq_eq_false_iff_ne.mpr c24
                              have c24b1 : (a3 != 31) = true := bne_iff_ne.mpr c24
                              by_cases c27 : 0 ≤ (Go.bits .and .u64 a2 a3)
                              · rw [if_pos c27] at H
                                have c27b0 := eq_true c27
                                have c27b1 : decide (0 ≤ (Go.bits .and .u64 a2 a3)) = true := decide_eq_true c27
                                clear c27
                                obtain ⟨ji28, hji28⟩ : ∃ j_ : Int, (shr .i64 (wrap64 (a1)) (Go.bits .and .u64 a2 a3)) = j_ := ⟨_, rfl⟩
                                replace H : (some (IntKind.u64.wrap (ji28), 0)) = some (r1, r2) := by first | (rw [hji28] at H; exact H) | (simp only [hji28] at H ⊢; exact H)
                                have hji28_ : ((wrap64 (a1)) / 2 ^ min (Go.bits .and .u64 a2 a3).toNat 64) = ji28 := hji28
                                have hji28z : (Go.bits .and .u64 a2 a3) ≤ 64 → ((wrap64 (a1)) / 2 ^ (Go.bits .and .u64 a2 a3).toNat) = ji28 := shr_small hji28
                                simp only [Option.some.injEq, Prod.mk.injEq] at H
                                obtain ⟨rfl, rfl⟩ := H
                                go_enter Try.func43, Try.ntmps43
                                go_wp2
                                go_ret2
                                exact ⟨by first | rfl | (simp; done) | (simp only [← hji28] <;> (first | rfl | simp)) | (simp [*]; done), by repeat (first | exact Drawn0.refl _ | apply Drawn0.step)⟩
                              · rw [if_neg c27] at H
                                exact absurd H (by simp)
                          · rw [if_neg c23] at H
                            have c23b0 : (a0 == 192) = false := beq_eq_false_iff_ne.mpr c23
                            have c23b1 : (a0 != 192) = true := bne_iff_ne.mpr c23
                            simp only [Option.some.injEq, Prod.mk.injEq] at H
                            obtain ⟨rfl, rfl⟩ := H
                            go_enter Try.func43, Try.ntmps43
                            go_wp2
                            go_ret2
                            exact ⟨by first | rfl | (simp; done) | (simp [*]; done), by repeat (first | exact Drawn0.refl _ | apply Drawn0.step)⟩

/-! ### alu_Do: function 30 -/
def alu_Do.f (a0 : Int) (a1 : Bool) (a2 : Int) (a3 : Int) : Option (Int × Int) := if a1 = true then ((alu_do.f a0 a2 a3 63).bind fun bt101 => (some (bt101.1, bt101.2))) else ((alu_do.f a0 ((a2) % 4294967296) ((a3) % 4294967296) 31).bind fun bt103 => (some ((bt103.1) % 4294967296, bt103.2)))
set_option maxHeartbeats 8000000 in
set_option maxRecDepth 100000 in
theorem alu_Do.calls (a0 : Int) (a1 : Bool) (a2 : Int) (a3 : Int) (r1 : Int) (r2 : Int) (w : World) (h : alu_Do.f a0 a1 a2 a3 = some (r1, r2)) :
    Calls Try.prog 30 #[.int .i64 a0, .bool a1, .int .u64 a2, .int .u64 a3] w fun e w' => e = .returned (.tuple #[.int .u64 r1, .int .i64 r2]) ∧ Drawn0 w w' := by
  have H : (if a1 = true then ((alu_do.f a0 a2 a3 63).bind fun bt101 => (some (bt101.1, bt101.2))) else ((alu_do.f a0 ((a2) % 4294967296) ((a3) % 4294967296) 31).bind fun bt103 => (some ((bt103.1) % 4294967296, bt103.2)))) = some (r1, r2) := h
  clear h
  by_cases c5 : a1 = true
  · subst c5
    have H1 : ((alu_do.f a0 a2 a3 63).bind fun bt101 => (some (bt101.1, bt101.2))) = some (r1, r2) := by rw [if_pos rfl] at H; exact H
    clear H
    have H := H1
    clear H1
    replace H := Option.bind_eq_some_iff.mp H
    obtain ⟨⟨t101, t102⟩, A60, H⟩ := H
    replace H : (some (t101, t102)) = some (r1, r2) := H
    have A6 := Aside0.mk A60
    clear A60
    simp only [Option.some.injEq, Prod.mk.injEq] at H
    obtain ⟨rfl, rfl⟩ := H
    go_enter Try.func30, Try.ntmps30
    go_wp2_with (first | ((with_reducible refine gate_callee (f := 43) rfl ?_); refine goesL_ (some 32) rfl rfl Try.func43 (by kernel_rfl) rfl #[.int .i64 a0, .int .u64 a2, .int .u64 a3, .int .u64 63] rfl (by (try simp only [List.map_toArray, List.map_cons, List.map_nil]); first | done | rfl | (simp only [List.length_drop, List.length_take]; rfl)) ?_; (with_reducible refine (alu_do.calls a0 a2 a3 63 t101 t102 _ A6.out).mono ?_); rintro e w' ⟨rfl, ⟨nd, rfl⟩⟩; refine ⟨_, rfl, ?_⟩))
    go_ret2
    exact ⟨by first | rfl | (simp; done) | (simp [*]; done), by repeat (first | exact Drawn0.refl _ | apply Drawn0.step)⟩
  · replace c5 := Bool.eq_false_iff.mpr c5
    subst c5
    have H1 : ((alu_do.f a0 ((a2) % 4294967296) ((a3) % 4294967296) 31).bind fun bt103 => (some ((bt103.1) % 4294967296, bt103.2))) = some (r1, r2) := by rw [if_neg (show ¬ (false = true) by decide)] at H; exact H
    clear H
    have H := H1
    clear H1
    replace H := Option.bind_eq_some_iff.mp H
    obtain ⟨⟨t103, t104⟩, A70, H⟩ := H
    replace H : (some ((t103) % 4294967296, t104)) = some (r1, r2) := H
    have A7 := Aside0.mk A70
    clear A70
    simp only [Option.some.injEq, Prod.mk.injEq] at H
    obtain ⟨rfl, rfl⟩ := H
    go_enter Try.func30, Try.ntmps30
    go_wp2_with (first | ((with_reducible refine gate_callee (f := 43) rfl ?_); refine goesL_ (some 22) rfl rfl Try.func43 (by kernel_rfl) rfl #[.int .i64 a0, .int .u64 ((a2) % 4294967296), .int .u64 ((a3) % 4294967296), .int .u64 31] rfl (by (try simp only [List.map_toArray, List.map_cons, List.map_nil]); first | done | rfl | (simp only [List.length_drop, List.length_take]; rfl)) ?_; (with_reducible refine (alu_do.calls a0 ((a2) % 4294967296) ((a3) % 4294967296) 31 t103 t104 _ A7.out).mono ?_); rintro e w' ⟨rfl, ⟨nd, rfl⟩⟩; refine ⟨_, rfl, ?_⟩))
    go_ret2
    exact ⟨by first | rfl | (simp; done) | (simp [*]; done), by repeat (first | exact Drawn0.refl _ | apply Drawn0.step)⟩

/-! ### alu_Holds: function 33 -/
def alu_Holds.j0 : Nat → Int → Int → Int → Option (Bool × Int)
  | 0, _, _, _ => none
  | k + 1, x0, x2, x3 => if x0 = 16 then (some ((x2 == x3), 0)) else (if x0 = 32 then (some (decide (x2 > x3), 0)) else (if x0 = 48 then (some (decide (x2 ≥ x3), 0)) else (if x0 = 64 then (some (((Go.bits .and .u64 x2 x3) != 0), 0)) else (if x0 = 80 then (some ((x2 != x3), 0)) else (if x0 = 96 then (some (decide ((wrap64 (x2)) > (wrap64 (x3))), 0)) else (if x0 = 112 then (some (decide ((wrap64 (x2)) ≥ (wrap64 (x3))), 0)) else (if x0 = 160 then (some (decide (x2 < x3), 0)) else (if x0 = 176 then (some (decide (x2 ≤ x3), 0)) else (if x0 = 192 then (some (decide ((wrap64 (x2)) < (wrap64 (x3))), 0)) else (if x0 = 208 then (some (decide ((wrap64 (x2)) ≤ (wrap64 (x3))), 0)) else (some (false, 2))))))))))))
def alu_Holds.f (k : Nat) (a0 : Int) (a1 : Bool) (a2 : Int) (a3 : Int) : Option (Bool × Int) := if a1 = true then (alu_Holds.j0 k a0 a2 a3) else (alu_Holds.j0 k a0 (IntKind.u64.wrap (wrap64 (wrap32 ((a2) % 4294967296)))) (IntKind.u64.wrap (wrap64 (wrap32 ((a3) % 4294967296)))))
theorem alu_Holds.mono_l : ∀ k, (∀ y0 y1 y2, LeO (alu_Holds.j0 k y0 y1 y2) (alu_Holds.j0 (k + 1) y0 y1 y2))
  | 0 => fun _ _ _ r h => by simp [alu_Holds.j0] at h
  | k + 1 => by
    have ih0 := alu_Holds.mono_l k
    · intro y0 y1 y2
      unfold alu_Holds.j0
      repeat' first
      | (with_reducible exact ih0 _ _ _)
      | (with_reducible exact LeO.refl _)
      | (with_reducible exact LeO.none _)
      | (with_reducible refine LeO.ite ?_ ?_)
      | (with_reducible refine LeO.bind ?_ (fun _ => ?_))
      | exact ih0 _ _ _
      | exact LeO.none _
      | refine LeO.ite ?_ ?_
      | refine LeO.bind ?_ (fun _ => ?_)
theorem alu_Holds.mono : ∀ a0 a1 a2 a3 k, LeO (alu_Holds.f k a0 a1 a2 a3) (alu_Holds.f (k + 1) a0 a1 a2 a3) := by
  intro a0 a1 a2 a3 k
  have ih0 := alu_Holds.mono_l k
  unfold alu_Holds.f
  repeat' first
      | (with_reducible exact ih0 _ _ _)
      | (with_reducible exact LeO.refl _)
      | (with_reducible exact LeO.none _)
      | (with_reducible refine LeO.ite ?_ ?_)
      | (with_reducible refine LeO.bind ?_ (fun _ => ?_))
      | exact ih0 _ _ _
      | exact LeO.none _
      | refine LeO.ite ?_ ?_
      | refine LeO.bind ?_ (fun _ => ?_)
set_option maxHeartbeats 8000000 in
set_option maxRecDepth 100000 in
theorem alu_Holds.calls (k : Nat) (a0 : Int) (a1 : Bool) (a2 : Int) (a3 : Int) (r1 : Bool) (r2 : Int) (w : World) (h : alu_Holds.f k a0 a1 a2 a3 = some (r1, r2)) :
    Calls Try.prog 33 #[.int .i64 a0, .bool a1, .int .u64 a2, .int .u64 a3] w fun e w' => e = .returned (.tuple #[.bool r1, .int .i64 r2]) ∧ Drawn0 w w' := by
  have H : (if a1 = true then (alu_Holds.j0 k a0 a2 a3) else (alu_Holds.j0 k a0 (IntKind.u64.wrap (wrap64 (wrap32 ((a2) % 4294967296)))) (IntKind.u64.wrap (wrap64 (wrap32 ((a3) % 4294967296)))))) = some (r1, r2) := h
  clear h
  have HC5 := Aside0.mk H
  clear H
  go_enter Try.func33, Try.ntmps33
  go_upto_if 11 with (fail)
  go_cut [2, 3] (fun v2 v3 wc => ∃ (kq : Nat) (x2_4 : Int) (x3_4 : Int), v2 = .int .u64 x2_4 ∧ v3 = .int .u64 x3_4 ∧ Aside0 (alu_Holds.j0 kq a0 x2_4 x3_4 = some (r1, r2)) ∧ Aside0 (kq ≤ k) ∧ Drawn0 w wc)
  case first =>
    have H := HC5.out
    clear HC5
    by_cases c6 : a1 = true
    · subst c6
      have H1 : (alu_Holds.j0 k a0 a2 a3) = some (r1, r2) := by rw [if_pos rfl] at H; exact H
      clear H
      have H := H1
      clear H1
      have H' := Aside0.mk H
      clear H
      go_wp2
      go_meet
      case rel => exact ⟨_, (a2), (a3), (by first | rfl | (simp; done) | (simp [*]; done)), (by first | rfl | (simp; done) | (simp [*]; done)), H', ⟨by first | omega | exact Nat.le_refl _⟩, by repeat (first | exact Drawn0.refl _ | apply Drawn0.step)⟩
    · replace c6 := Bool.eq_false_iff.mpr c6
      subst c6
      have H1 : (alu_Holds.j0 k a0 (IntKind.u64.wrap (wrap64 (wrap32 ((a2) % 4294967296)))) (IntKind.u64.wrap (wrap64 (wrap32 ((a3) % 4294967296))))) = some (r1, r2) := by rw [if_neg (show ¬ (false = true) by decide)] at H; exact H
      clear H
      have H := H1
      clear H1
      have H' := Aside0.mk H
      clear H
      go_wp2
      go_meet
      case rel => exact ⟨_, (IntKind.u64.wrap (wrap64 (wrap32 ((a2) % 4294967296)))), (IntKind.u64.wrap (wrap64 (wrap32 ((a3) % 4294967296)))), (by first | rfl | (simp; done) | (simp [*]; done)), (by first | rfl | (simp; done) | (simp [*]; done)), H', ⟨by first | omega | exact Nat.le_refl _⟩, by repeat (first | exact Drawn0.refl _ | apply Drawn0.step)⟩
  case rest =>
    clear HC5
    try clear p2
    try clear c3
    try clear p3
    try clear c6
    try clear p6
    obtain ⟨kq, x2_4, x3_4, rfl, rfl, HA, HJ4, ⟨mc4, rfl⟩⟩ := hcut
    cases kq with
    | zero => exact absurd HA.out (by simp [alu_Holds.j0])
    | succ kj4 =>
      have H := HA.out
      clear HA
      simp only [alu_Holds.j0] at H
      by_cases c7 : a0 = 16
      · rw [if_pos c7] at H
        have c7b0 : (a0 == 16) = true := beq_iff_eq.mpr c7
        have c7b1 : (a0 != 16) = false := bne_eq_false_iff_eq.mpr c7
        clear c7
        simp only [Option.some.injEq, Prod.mk.injEq] at H
        obtain ⟨rfl, rfl⟩ := H
        go_wp2
        go_ret2
        exact ⟨by first | rfl | (simp; done) | (simp [*]; done), by repeat (first | exact Drawn0.refl _ | apply Drawn0.step)⟩
      · rw [if_neg c7] at H
        have c7b0 : (a0 == 16) = false := beq_eq_false_iff_ne.mpr c7
        have c7b1 : (a0 != 16) = true := bne_iff_ne.mpr c7
        by_cases c8 : a0 = 32
        · rw [if_pos c8] at H
          have c8b0 : (a0 == 32) = true := beq_iff_eq.mpr c8
          have c8b1 : (a0 != 32) = false := bne_eq_false_iff_eq.mpr c8
          clear c8
          simp only [Option.some.injEq, Prod.mk.injEq] at H
          obtain ⟨rfl, rfl⟩ := H
          go_wp2
          go_ret2
          exact ⟨by first | rfl | (simp; done) | (simp [*]; done), by repeat (first | exact Drawn0.refl _ | apply Drawn0.step)⟩
        · rw [if_neg c8] at H
          have c8b0 : (a0 == 32) = false := beq_eq_false_iff_ne.mpr c8
          have c8b1 : (a0 != 32) = true := bne_iff_ne.mpr c8
          by_cases c9 : a0 = 48
          · rw [if_pos c9] at H
            have c9b0 : (a0 == 48) = true := beq_iff_eq.mpr c9
            have c9b1 : (a0 != 48) = false := bne_eq_false_iff_eq.mpr c9
            clear c9
            simp only [Option.some.injEq, Prod.mk.injEq] at H
            obtain ⟨rfl, rfl⟩ := H
            go_wp2
            go_ret2
            exact ⟨by first | rfl | (simp; done) | (simp [*]; done), by repeat (first | exact Drawn0.refl _ | apply Drawn0.step)⟩
          · rw [if_neg c9] at H
            have c9b0 : (a0 == 48) = false := beq_eq_false_iff_ne.mpr c9
            have c9b1 : (a0 != 48) = true := bne_iff_ne.mpr c9
            by_cases c10 : a0 = 64
            · rw [if_pos c10] at H
              have c10b0 : (a0 == 64) = true := beq_iff_eq.mpr c10
              have c10b1 : (a0 != 64) = false := bne_eq_false_iff_eq.mpr c10
              clear c10
              simp only [Option.some.injEq, Prod.mk.injEq] at H
              obtain ⟨rfl, rfl⟩ := H
              go_wp2
              go_ret2
              exact ⟨by first | rfl | (simp; done) | (simp [*]; done), by repeat (first | exact Drawn0.refl _ | apply Drawn0.step)⟩
            · rw [if_neg c10] at H
              have c10b0 : (a0 == 64) = false := beq_eq_false_iff_ne.mpr c10
              have c10b1 : (a0 != 64) = true := bne_iff_ne.mpr c10
              by_cases c11 : a0 = 80
              · rw [if_pos c11] at H
                have c11b0 : (a0 == 80) = true := beq_iff_eq.mpr c11
                have c11b1 : (a0 != 80) = false := bne_eq_false_iff_eq.mpr c11
                clear c11
                simp only [Option.some.injEq, Prod.mk.injEq] at H
                obtain ⟨rfl, rfl⟩ := H
                go_wp2
                go_ret2
                exact ⟨by first | rfl | (simp; done) | (simp [*]; done), by repeat (first | exact Drawn0.refl _ | apply Drawn0.step)⟩
              · rw [if_neg c11] at H
                have c11b0 : (a0 == 80) = false := beq_eq_false_iff_ne.mpr c11
                have c11b1 : (a0 != 80) = true := bne_iff_ne.mpr c11
                by_cases c12 : a0 = 96
                · rw [if_pos c12] at H
                  have c12b0 : (a0 == 96) = true := beq_iff_eq.mpr c12
                  have c12b1 : (a0 != 96) = false := bne_eq_false_iff_eq.mpr c12
                  clear c12
                  simp only [Option.some.injEq, Prod.mk.injEq] at H
                  obtain ⟨rfl, rfl⟩ := H
                  go_wp2
                  go_ret2
                  exact ⟨by first | rfl | (simp; done) | (simp [*]; done), by repeat (first | exact Drawn0.refl _ | apply Drawn0.step)⟩
                · rw [if_neg c12] at H
                  have c12b0 : (a0 == 96) = false := beq_eq_false_iff_ne.mpr c12
                  have c12b1 : (a0 != 96) = true := bne_iff_ne.mpr c12
                  by_cases c13 : a0 = 112
                  · rw [if_pos c13] at H
                    have c13b0 : (a0 == 112) = true := beq_iff_eq.mpr c13
                    have c13b1 : (a0 != 112) = false := bne_eq_false_iff_eq.mpr c13
                    clear c13
                    simp only [Option.some.injEq, Prod.mk.injEq] at H
                    obtain ⟨rfl, rfl⟩ := H
                    go_wp2
                    go_ret2
                    exact ⟨by first | rfl | (simp; done) | (simp [*]; done), by repeat (first | exact Drawn0.refl _ | apply Drawn0.step)⟩
                  · rw [if_neg c13] at H
                    have c13b0 : (a0 == 112) = false := beq_eq_false_iff_ne.mpr c13
                    have c13b1 : (a0 != 112) = true := bne_iff_ne.mpr c13
                    by_cases c14 : a0 = 160
                    · rw [if_pos c14] at H
                      have c14b0 : (a0 == 160) = true := beq_iff_eq.mpr c14
                      have c14b1 : (a0 != 160) = false := bne_eq_false_iff_eq.mpr c14
                      clear c14
                      simp only [Option.some.injEq, Prod.mk.injEq] at H
                      obtain ⟨rfl, rfl⟩ := H
                      go_wp2
                      go_ret2
                      exact ⟨by first | rfl | (simp; done) | (simp [*]; done), by repeat (first | exact Drawn0.refl _ | apply Drawn0.step)⟩
                    · rw [if_neg c14] at H
                      have c14b0 : (a0 == 160) = false := beq_eq_false_iff_ne.mpr c14
                      have c14b1 : (a0 != 160) = true := bne_iff_ne.mpr c14
                      by_cases c15 : a0 = 176
                      · rw [if_pos c15] at H
                        have c15b0 : (a0 == 176) = true := beq_iff_eq.mpr c15
                        have c15b1 : (a0 != 176) = false := bne_eq_false_iff_eq.mpr c15
                        clear c15
                        simp only [Option.some.injEq, Prod.mk.injEq] at H
                        obtain ⟨rfl, rfl⟩ := H
                        go_wp2
                        go_ret2
                        exact ⟨by first | rfl | (simp; done) | (simp [*]; done), by repeat (first | exact Drawn0.refl _ | apply Drawn0.step)⟩
                      · rw [if_neg c15] at H
                        have c15b0 : (a0 == 176) = false := beq_eq_false_iff_ne.mpr c15
                        have c15b1 : (a0 != 176) = true := bne_iff_ne.mpr c15
                        by_cases c16 : a0 = 192
                        · rw [if_pos c16] at H
                          have c16b0 : (a0 == 192) = true := beq_iff_eq.mpr c16
                          have c16b1 : (a0 != 192) = false := bne_eq_false_iff_eq.mpr c16
                          clear c16
                          simp only [Option.some.injEq, Prod.mk.injEq] at H
                          obtain ⟨rfl, rfl⟩ := H
                          go_wp2
                          go_ret2
                          exact ⟨by first | rfl | (simp; done) | (simp [*]; done), by repeat (first | exact Drawn0.refl _ | apply Drawn0.step)⟩
                        · rw [if_neg c16] at H
                          have c16b0 : (a0 == 192) = false := beq_eq_false_iff_ne.mpr c16
                          have c16b1 : (a0 != 192) = true := bne_iff_ne.mpr c16
                          by_cases c17 : a0 = 208
                          · rw [if_pos c17] at H
                            have c17b0 : (a0 == 208) = true := beq_iff_eq.mpr c17
                            have c17b1 : (a0 != 208) = false := bne_eq_false_iff_eq.mpr c17
                            clear c17
                            simp only [Option.some.injEq, Prod.mk.injEq] at H
                            obtain ⟨rfl, rfl⟩ := H
                            go_wp2
                            go_ret2
                            exact ⟨by first | rfl | (simp; done) | (simp [*]; done), by repeat (first | exact Drawn0.refl _ | apply Drawn0.step)⟩
                          · rw [if_neg c17] at H
                            have c17b0 : (a0 == 208) = false := beq_eq_false_iff_ne.mpr c17
                            have c17b1 : (a0 != 208) = true := bne_iff_ne.mpr c17
                            simp only [Option.some.injEq, Prod.mk.injEq] at H
                            obtain ⟨rfl, rfl⟩ := H
                            go_wp2
                            go_ret2
                            exact ⟨by first | rfl | (simp; done) | (simp [*]; done), by repeat (first | exact Drawn0.refl _ | apply Drawn0.step)⟩

/-! ### posternlaw05_first: function 29 -/
def posternlaw05_first.f (k : Nat)  : Option (Bool) := (alu_Do.f 192 false 2147483648 1).bind fun bt105 => ((alu_Holds.f k 96 false 0 4294967295).bind fun bt107 => (if bt105.1 = 3221225472 then (if bt105.2 = 0 then (if bt107.1 = true then (some (bt107.2 == 0)) else (some false)) else (some false)) else (some false)))
theorem posternlaw05_first.mono : ∀ k, LeO (posternlaw05_first.f k ) (posternlaw05_first.f (k + 1) ) := by
  intro  k
  unfold posternlaw05_first.f
  repeat' first
      | (with_reducible exact alu_Holds.mono _ _ _ _ _)
      | (with_reducible exact LeO.refl _)
      | (with_reducible exact LeO.none _)
      | (with_reducible refine LeO.ite ?_ ?_)
      | (with_reducible refine LeO.bind ?_ (fun _ => ?_))
      | exact alu_Holds.mono _ _ _ _ _
      | exact LeO.none _
      | refine LeO.ite ?_ ?_
      | refine LeO.bind ?_ (fun _ => ?_)
set_option maxHeartbeats 8000000 in
set_option maxRecDepth 100000 in
theorem posternlaw05_first.calls (k : Nat)  (r : Bool) (w : World) (h : posternlaw05_first.f k  = some r) :
    Calls Try.prog 29 #[] w fun e w' => e = .returned (.bool r) ∧ Drawn0 w w' := by
  have H : ((alu_Do.f 192 false 2147483648 1).bind fun bt105 => ((alu_Holds.f k 96 false 0 4294967295).bind fun bt107 => (if bt105.1 = 3221225472 then (if bt105.2 = 0 then (if bt107.1 = true then (some (bt107.2 == 0)) else (some false)) else (some false)) else (some false)))) = some r := h
  clear h
  replace H := Option.bind_eq_some_iff.mp H
  obtain ⟨⟨t105, t106⟩, A10, H⟩ := H
  replace H : ((alu_Holds.f k 96 false 0 4294967295).bind fun bt107 => (if t105 = 3221225472 then (if t106 = 0 then (if bt107.1 = true then (some (bt107.2 == 0)) else (some false)) else (some false)) else (some false))) = some r := H
  have A1 := Aside0.mk A10
  clear A10
  replace H := Option.bind_eq_some_iff.mp H
  obtain ⟨⟨t107, t108⟩, A20, H⟩ := H
  replace H : (if t105 = 3221225472 then (if t106 = 0 then (if t107 = true then (some (t108 == 0)) else (some false)) else (some false)) else (some false)) = some r := H
  have A2 := Aside0.mk A20
  clear A20
  by_cases c3 : t105 = 3221225472
  · rw [if_pos c3] at H
    have c3b0 : (t105 == 3221225472) = true := beq_iff_eq.mpr c3
    have c3b1 : (t105 != 3221225472) = false := bne_eq_false_iff_eq.mpr c3
    clear c3
    by_cases c4 : t106 = 0
    · rw [if_pos c4] at H
      have c4b0 : (t106 == 0) = true := beq_iff_eq.mpr c4
      have c4b1 : (t106 != 0) = false := bne_eq_false_iff_eq.mpr c4
      clear c4
      by_cases c5 : t107 = true
      · subst c5
        have H1 : (some (t108 == 0)) = some r := by rw [if_pos rfl] at H; exact H
        clear H
        have H := H1
        clear H1
        obtain rfl := Option.some.inj H
        go_enter Try.func29, Try.ntmps29
        go_wp2_with (first | ((with_reducible refine gate_callee (f := 30) rfl ?_); refine goesL_ (some 6) rfl rfl Try.func30 (by kernel_rfl) rfl #[.int .i64 192, .bool false, .int .u64 2147483648, .int .u64 1] rfl (by (try simp only [List.map_toArray, List.map_cons, List.map_nil]); first | done | rfl | (simp only [List.length_drop, List.length_take]; rfl)) ?_; (with_reducible refine (alu_Do.calls 192 false 2147483648 1 t105 t106 _ A1.out).mono ?_); rintro e w' ⟨rfl, ⟨nd, rfl⟩⟩; refine ⟨_, rfl, ?_⟩) | ((with_reducible refine gate_callee (f := 33) rfl ?_); refine goesL_ (some 10) rfl rfl Try.func33 (by kernel_rfl) rfl #[.int .i64 96, .bool false, .int .u64 0, .int .u64 4294967295] rfl (by (try simp only [List.map_toArray, List.map_cons, List.map_nil]); first | done | rfl | (simp only [List.length_drop, List.length_take]; rfl)) ?_; (with_reducible refine (alu_Holds.calls k 96 false 0 4294967295 true t108 _ A2.out).mono ?_); rintro e w' ⟨rfl, ⟨nd, rfl⟩⟩; refine ⟨_, rfl, ?_⟩))
        go_ret
        exact ⟨by first | rfl | (simp; done) | (simp [*]; done), by repeat (first | exact Drawn0.refl _ | apply Drawn0.step)⟩
      · replace c5 := Bool.eq_false_iff.mpr c5
        subst c5
        have H1 : (some false) = some r := by rw [if_neg (show ¬ (false = true) by decide)] at H; exact H
        clear H
        have H := H1
        clear H1
        obtain rfl := Option.some.inj H
        go_enter Try.func29, Try.ntmps29
        go_wp2_with (first | ((with_reducible refine gate_callee (f := 30) rfl ?_); refine goesL_ (some 6) rfl rfl Try.func30 (by kernel_rfl) rfl #[.int .i64 192, .bool false, .int .u64 2147483648, .int .u64 1] rfl (by (try simp only [List.map_toArray, List.map_cons, List.map_nil]); first | done | rfl | (simp only [List.length_drop, List.length_take]; rfl)) ?_; (with_reducible refine (alu_Do.calls 192 false 2147483648 1 t105 t106 _ A1.out).mono ?_); rintro e w' ⟨rfl, ⟨nd, rfl⟩⟩; refine ⟨_, rfl, ?_⟩) | ((with_reducible refine gate_callee (f := 33) rfl ?_); refine goesL_ (some 10) rfl rfl Try.func33 (by kernel_rfl) rfl #[.int .i64 96, .bool false, .int .u64 0, .int .u64 4294967295] rfl (by (try simp only [List.map_toArray, List.map_cons, List.map_nil]); first | done | rfl | (simp only [List.length_drop, List.length_take]; rfl)) ?_; (with_reducible refine (alu_Holds.calls k 96 false 0 4294967295 false t108 _ A2.out).mono ?_); rintro e w' ⟨rfl, ⟨nd, rfl⟩⟩; refine ⟨_, rfl, ?_⟩))
        go_ret
        exact ⟨by first | rfl | (simp; done) | (simp [*]; done), by repeat (first | exact Drawn0.refl _ | apply Drawn0.step)⟩
    · rw [if_neg c4] at H
      have c4b0 : (t106 == 0) = false := beq_eq_false_iff_ne.mpr c4
      have c4b1 : (t106 != 0) = true := bne_iff_ne.mpr c4
      obtain rfl := Option.some.inj H
      go_enter Try.func29, Try.ntmps29
      go_wp2_with (first | ((with_reducible refine gate_callee (f := 30) rfl ?_); refine goesL_ (some 6) rfl rfl Try.func30 (by kernel_rfl) rfl #[.int .i64 192, .bool false, .int .u64 2147483648, .int .u64 1] rfl (by (try simp only [List.map_toArray, List.map_cons, List.map_nil]); first | done | rfl | (simp only [List.length_drop, List.length_take]; rfl)) ?_; (with_reducible refine (alu_Do.calls 192 false 2147483648 1 t105 t106 _ A1.out).mono ?_); rintro e w' ⟨rfl, ⟨nd, rfl⟩⟩; refine ⟨_, rfl, ?_⟩) | ((with_reducible refine gate_callee (f := 33) rfl ?_); refine goesL_ (some 10) rfl rfl Try.func33 (by kernel_rfl) rfl #[.int .i64 96, .bool false, .int .u64 0, .int .u64 4294967295] rfl (by (try simp only [List.map_toArray, List.map_cons, List.map_nil]); first | done | rfl | (simp only [List.length_drop, List.length_take]; rfl)) ?_; (with_reducible refine (alu_Holds.calls k 96 false 0 4294967295 t107 t108 _ A2.out).mono ?_); rintro e w' ⟨rfl, ⟨nd, rfl⟩⟩; refine ⟨_, rfl, ?_⟩))
      go_ret
      exact ⟨by first | rfl | (simp; done) | (simp [*]; done), by repeat (first | exact Drawn0.refl _ | apply Drawn0.step)⟩
  · rw [if_neg c3] at H
    have c3b0 : (t105 == 3221225472) = false := beq_eq_false_iff_ne.mpr c3
    have c3b1 : (t105 != 3221225472) = true := bne_iff_ne.mpr c3
    obtain rfl := Option.some.inj H
    go_enter Try.func29, Try.ntmps29
    go_wp2_with (first | ((with_reducible refine gate_callee (f := 30) rfl ?_); refine goesL_ (some 6) rfl rfl Try.func30 (by kernel_rfl) rfl #[.int .i64 192, .bool false, .int .u64 2147483648, .int .u64 1] rfl (by (try simp only [List.map_toArray, List.map_cons, List.map_nil]); first | done | rfl | (simp only [List.length_drop, List.length_take]; rfl)) ?_; (with_reducible refine (alu_Do.calls 192 false 2147483648 1 t105 t106 _ A1.out).mono ?_); rintro e w' ⟨rfl, ⟨nd, rfl⟩⟩; refine ⟨_, rfl, ?_⟩) | ((with_reducible refine gate_callee (f := 33) rfl ?_); refine goesL_ (some 10) rfl rfl Try.func33 (by kernel_rfl) rfl #[.int .i64 96, .bool false, .int .u64 0, .int .u64 4294967295] rfl (by (try simp only [List.map_toArray, List.map_cons, List.map_nil]); first | done | rfl | (simp only [List.length_drop, List.length_take]; rfl)) ?_; (with_reducible refine (alu_Holds.calls k 96 false 0 4294967295 t107 t108 _ A2.out).mono ?_); rintro e w' ⟨rfl, ⟨nd, rfl⟩⟩; refine ⟨_, rfl, ?_⟩))
    go_ret
    exact ⟨by first | rfl | (simp; done) | (simp [*]; done), by repeat (first | exact Drawn0.refl _ | apply Drawn0.step)⟩

/-! ### insn_ByReg: function 21 -/
def insn_ByReg.f (a0 : Int) : Option (Bool) := some ((Go.bits .and .u8 a0 8) != 0)
set_option maxHeartbeats 8000000 in
set_option maxRecDepth 100000 in
theorem insn_ByReg.calls (a0 : Int) (r : Bool) (w : World) (h : insn_ByReg.f a0 = some r) :
    Calls Try.prog 21 #[.int .u8 a0] w fun e w' => e = .returned (.bool r) ∧ Drawn0 w w' := by
  have H : (some ((Go.bits .and .u8 a0 8) != 0)) = some r := h
  clear h
  obtain rfl := Option.some.inj H
  go_enter Try.func21, Try.ntmps21
  go_wp2
  go_ret
  exact ⟨by first | rfl | (simp; done) | (simp [*]; done), by repeat (first | exact Drawn0.refl _ | apply Drawn0.step)⟩

/-! ### alu_Operand: function 35 -/
def alu_Operand.f (a0_0 : Int) (a0_1 : Int) (a0_2 : Int) (a0_3 : Int) (a0_4 : Int) (a1 : Int) : Option (Int) := (insn_ByReg.f a0_0).bind fun t110 => (if t110 = true then (some a1) else (some (IntKind.u64.wrap (wrap64 (a0_4)))))
set_option maxHeartbeats 8000000 in
set_option maxRecDepth 100000 in
theorem alu_Operand.calls (a0_0 : Int) (a0_1 : Int) (a0_2 : Int) (a0_3 : Int) (a0_4 : Int) (a1 : Int) (r : Int) (w : World) (h : alu_Operand.f a0_0 a0_1 a0_2 a0_3 a0_4 a1 = some r) :
    Calls Try.prog 35 #[.agg #[.int .u8 a0_0, .int .u8 a0_1, .int .u8 a0_2, .int .i16 a0_3, .int .i32 a0_4], .int .u64 a1] w fun e w' => e = .returned (.int .u64 r) ∧ Below w.heap.size w w' := by
  have hu24 := Try.underlying24
  have HB := Aside0.mk (Below.refl w.heap.size w)
  have H : ((insn_ByReg.f a0_0).bind fun t110 => (if t110 = true then (some a1) else (some (IntKind.u64.wrap (wrap64 (a0_4)))))) = some r := h
  clear h
  replace H := Option.bind_eq_some_iff.mp H
  obtain ⟨t110, A30, H⟩ := H
  replace H : (if t110 = true then (some a1) else (some (IntKind.u64.wrap (wrap64 (a0_4))))) = some r := H
  have A3 := Aside0.mk A30
  clear A30
  by_cases c4 : t110 = true
  · subst c4
    have H1 : (some a1) = some r := by rw [if_pos rfl] at H; exact H
    clear H
    have H := H1
    clear H1
    obtain rfl := Option.some.inj H
    go_enter Try.func35, Try.ntmps35
    go_wp2_with (first | ((with_reducible refine gate_dst (N := 2) rfl ?_); refine box_event ?hg (N := 2) ?hd (cs := #[.int .u8 a0_0, .int .u8 a0_1, .int .u8 a0_2, .int .i16 a0_3, .int .i32 a0_4]) (t := 24) ?hr ?_; (case hd => rfl); (case hg => rfl); (case hr => first | (go_simp; done) | (go_simp; rfl)); intro gb109 hg w5 hbox hb; have n0_ := Aside0.mk (below_step (by repeat (first | (with_reducible first | exact HB.out | apply below_alloc | apply pw_below_drewN | apply below_drew1) | exact HB.out)) hb); have n1_ := Aside0.mk (hbox); have n2_ := Aside0.mk ((by rw [hg]; exact (below_size (by repeat (first | (with_reducible first | exact HB.out | apply below_alloc | apply pw_below_drewN | apply below_drew1) | exact HB.out))) : w.heap.size ≤ gb109)); have n3_ := Aside0.mk ((by rw [hg]; exact (below_size (by repeat (first | (with_reducible first | exact HB.out | apply below_alloc | apply pw_below_drewN | apply below_drew1) | exact HB.out))) : w.heap.size ≤ gb109)); clear HB; have HB := n0_; have BK109 := n1_; have GW109 := n2_; have GE109 := n3_; clear n0_ n1_ n2_ n3_; clear hb hbox hg; have hcz6_0 : w5.cell? ⟨gb109, 0, none⟩ = some (.int .u8 a0_0) := (blk_cell BK109.out 0).trans rfl; have hcz6_1 : w5.cell? ⟨gb109, 1, none⟩ = some (.int .u8 a0_1) := (blk_cell BK109.out 1).trans rfl; have hcz6_2 : w5.cell? ⟨gb109, 2, none⟩ = some (.int .u8 a0_2) := (blk_cell BK109.out 2).trans rfl; have hcz6_3 : w5.cell? ⟨gb109, 3, none⟩ = some (.int .i16 a0_3) := (blk_cell BK109.out 3).trans rfl; have hcz6_4 : w5.cell? ⟨gb109, 4, none⟩ = some (.int .i32 a0_4) := (blk_cell BK109.out 4).trans rfl; have hfz6_0 := blk_frozen BK109.out 0; have hfz6_1 := blk_frozen BK109.out 1; have hfz6_2 := blk_frozen BK109.out 2; have hfz6_3 := blk_frozen BK109.out 3; have hfz6_4 := blk_frozen BK109.out 4) | ((with_reducible refine gate_callee (f := 21) rfl ?_); refine goesL_ (some 7) rfl rfl Try.func21 (by kernel_rfl) rfl #[.int .u8 a0_0] rfl (by (try simp only [List.map_toArray, List.map_cons, List.map_nil]); first | done | rfl | (simp only [List.length_drop, List.length_take]; rfl)) ?_; (with_reducible refine (insn_ByReg.calls a0_0 true _ A3.out).mono ?_); rintro e w' ⟨rfl, ⟨nd, rfl⟩⟩; refine ⟨_, rfl, ?_⟩))
    go_ret
    exact ⟨by first | rfl | (simp [errW_none, errW_some] <;> rfl) | (simp [*, errW_none, errW_some] <;> rfl), by repeat (first | (with_reducible first | exact HB.out | apply below_alloc | apply pw_below_drewN | apply below_drew1 | refine below_set ?_ GE109.out) | exact HB.out)⟩
  · replace c4 := Bool.eq_false_iff.mpr c4
    subst c4
    have H1 : (some (IntKind.u64.wrap (wrap64 (a0_4)))) = some r := by rw [if_neg (show ¬ (false = true) by decide)] at H; exact H
    clear H
    have H := H1
    clear H1
    obtain rfl := Option.some.inj H
    go_enter Try.func35, Try.ntmps35
    go_wp2_with (first | ((with_reducible refine gate_dst (N := 2) rfl ?_); refine box_event ?hg (N := 2) ?hd (cs := #[.int .u8 a0_0, .int .u8 a0_1, .int .u8 a0_2, .int .i16 a0_3, .int .i32 a0_4]) (t := 24) ?hr ?_; (case hd => rfl); (case hg => rfl); (case hr => first | (go_simp; done) | (go_simp; rfl)); intro gb109 hg w7 hbox hb; have n0_ := Aside0.mk (below_step (by repeat (first | (with_reducible first | exact HB.out | apply below_alloc | apply pw_below_drewN | apply below_drew1) | exact HB.out)) hb); have n1_ := Aside0.mk (hbox); have n2_ := Aside0.mk ((by rw [hg]; exact (below_size (by repeat (first | (with_reducible first | exact HB.out | apply below_alloc | apply pw_below_drewN | apply below_drew1) | exact HB.out))) : w.heap.size ≤ gb109)); have n3_ := Aside0.mk ((by rw [hg]; exact (below_size (by repeat (first | (with_reducible first | exact HB.out | apply below_alloc | apply pw_below_drewN | apply below_drew1) | exact HB.out))) : w.heap.size ≤ gb109)); clear HB; have HB := n0_; have BK109 := n1_; have GW109 := n2_; have GE109 := n3_; clear n0_ n1_ n2_ n3_; clear hb hbox hg; have hcz8_0 : w7.cell? ⟨gb109, 0, none⟩ = some (.int .u8 a0_0) := (blk_cell BK109.out 0).trans rfl; have hcz8_1 : w7.cell? ⟨gb109, 1, none⟩ = some (.int .u8 a0_1) := (blk_cell BK109.out 1).trans rfl; have hcz8_2 : w7.cell? ⟨gb109, 2, none⟩ = some (.int .u8 a0_2) := (blk_cell BK109.out 2).trans rfl; have hcz8_3 : w7.cell? ⟨gb109, 3, none⟩ = some (.int .i16 a0_3) := (blk_cell BK109.out 3).trans rfl; have hcz8_4 : w7.cell? ⟨gb109, 4, none⟩ = some (.int .i32 a0_4) := (blk_cell BK109.out 4).trans rfl; have hfz8_0 := blk_frozen BK109.out 0; have hfz8_1 := blk_frozen BK109.out 1; have hfz8_2 := blk_frozen BK109.out 2; have hfz8_3 := blk_frozen BK109.out 3; have hfz8_4 := blk_frozen BK109.out 4) | ((with_reducible refine gate_callee (f := 21) rfl ?_); refine goesL_ (some 7) rfl rfl Try.func21 (by kernel_rfl) rfl #[.int .u8 a0_0] rfl (by (try simp only [List.map_toArray, List.map_cons, List.map_nil]); first | done | rfl | (simp only [List.length_drop, List.length_take]; rfl)) ?_; (with_reducible refine (insn_ByReg.calls a0_0 false _ A3.out).mono ?_); rintro e w' ⟨rfl, ⟨nd, rfl⟩⟩; refine ⟨_, rfl, ?_⟩))
    go_ret
    exact ⟨by first | rfl | (simp [errW_none, errW_some] <;> rfl) | (simp [*, errW_none, errW_some] <;> rfl), by repeat (first | (with_reducible first | exact HB.out | apply below_alloc | apply pw_below_drewN | apply below_drew1 | refine below_set ?_ GE109.out) | exact HB.out)⟩

/-! ### posternlaw05_AluOperand: function 11 -/
def posternlaw05_AluOperand.f (k : Nat) (a0_0 : Int) (a0_1 : Int) (a0_2 : Int) (a0_3 : Int) (a0_4 : Int) (a1 : Int) : Option (Bool) := (posternlaw05_first.f k).bind fun t112 => (if t112 = true then (if (((Int.tdiv a0_0 8) % 256) % 2) = 0 then (if a0_4 < 0 then ((alu_Operand.f a0_0 a0_1 a0_2 a0_3 a0_4 a1).bind fun t113 => (some (t113 == (((a0_4) % 4294967296) + 18446744069414584320)))) else ((alu_Operand.f a0_0 a0_1 a0_2 a0_3 a0_4 a1).bind fun t114 => (some (t114 == ((a0_4) % 4294967296))))) else ((alu_Operand.f a0_0 a0_1 a0_2 a0_3 a0_4 a1).bind fun t115 => (some (t115 == a1)))) else (some false))
theorem posternlaw05_AluOperand.mono : ∀ a0 a1 a2 a3 a4 a5 k, LeO (posternlaw05_AluOperand.f k a0 a1 a2 a3 a4 a5) (posternlaw05_AluOperand.f (k + 1) a0 a1 a2 a3 a4 a5) := by
  intro a0 a1 a2 a3 a4 a5 k
  unfold posternlaw05_AluOperand.f
  repeat' first
      | (with_reducible exact posternlaw05_first.mono _)
      | (with_reducible exact LeO.refl _)
      | (with_reducible exact LeO.none _)
      | (with_reducible refine LeO.ite ?_ ?_)
      | (with_reducible refine LeO.bind ?_ (fun _ => ?_))
      | exact posternlaw05_first.mono _
      | exact LeO.none _
      | refine LeO.ite ?_ ?_
      | refine LeO.bind ?_ (fun _ => ?_)
set_option maxHeartbeats 8000000 in
set_option maxRecDepth 100000 in
theorem posternlaw05_AluOperand.calls (k : Nat) (a0_0 : Int) (a0_1 : Int) (a0_2 : Int) (a0_3 : Int) (a0_4 : Int) (a1 : Int) (r : Bool) (w : World) (h : posternlaw05_AluOperand.f k a0_0 a0_1 a0_2 a0_3 a0_4 a1 = some r) :
    Calls Try.prog 11 #[.agg #[.int .u8 a0_0, .int .u8 a0_1, .int .u8 a0_2, .int .i16 a0_3, .int .i32 a0_4], .int .u64 a1] w fun e w' => e = .returned (.bool r) ∧ Below w.heap.size w w' := by
  have hu24 := Try.underlying24
  have HB := Aside0.mk (Below.refl w.heap.size w)
  have H : ((posternlaw05_first.f k).bind fun t112 => (if t112 = true then (if (((Int.tdiv a0_0 8) % 256) % 2) = 0 then (if a0_4 < 0 then ((alu_Operand.f a0_0 a0_1 a0_2 a0_3 a0_4 a1).bind fun t113 => (some (t113 == (((a0_4) % 4294967296) + 18446744069414584320)))) else ((alu_Operand.f a0_0 a0_1 a0_2 a0_3 a0_4 a1).bind fun t114 => (some (t114 == ((a0_4) % 4294967296))))) else ((alu_Operand.f a0_0 a0_1 a0_2 a0_3 a0_4 a1).bind fun t115 => (some (t115 == a1)))) else (some false))) = some r := h
  clear h
  replace H := Option.bind_eq_some_iff.mp H
  obtain ⟨t112, A30, H⟩ := H
  replace H : (if t112 = true then (if (((Int.tdiv a0_0 8) % 256) % 2) = 0 then (if a0_4 < 0 then ((alu_Operand.f a0_0 a0_1 a0_2 a0_3 a0_4 a1).bind fun t113 => (some (t113 == (((a0_4) % 4294967296) + 18446744069414584320)))) else ((alu_Operand.f a0_0 a0_1 a0_2 a0_3 a0_4 a1).bind fun t114 => (some (t114 == ((a0_4) % 4294967296))))) else ((alu_Operand.f a0_0 a0_1 a0_2 a0_3 a0_4 a1).bind fun t115 => (some (t115 == a1)))) else (some false)) = some r := H
  have A3 := Aside0.mk A30
  clear A30
  by_cases c4 : t112 = true
  · subst c4
    have H1 : (if (((Int.tdiv a0_0 8) % 256) % 2) = 0 then (if a0_4 < 0 then ((alu_Operand.f a0_0 a0_1 a0_2 a0_3 a0_4 a1).bind fun t113 => (some (t113 == (((a0_4) % 4294967296) + 18446744069414584320)))) else ((alu_Operand.f a0_0 a0_1 a0_2 a0_3 a0_4 a1).bind fun t114 => (some (t114 == ((a0_4) % 4294967296))))) else ((alu_Operand.f a0_0 a0_1 a0_2 a0_3 a0_4 a1).bind fun t115 => (some (t115 == a1)))) = some r := by rw [if_pos rfl] at H; exact H
    clear H
    have H := H1
    clear H1
    by_cases c5 : (((Int.tdiv a0_0 8) % 256) % 2) = 0
    · rw [if_pos c5] at H
      have c5b0 : ((((Int.tdiv a0_0 8) % 256) % 2) == 0) = true := beq_iff_eq.mpr c5
      have c5b1 : ((((Int.tdiv a0_0 8) % 256) % 2) != 0) = false := bne_eq_false_iff_eq.mpr c5
      clear c5
      by_cases c6 : a0_4 < 0
      · rw [if_pos c6] at H
        have c6b0 : decide (a0_4 < 0) = true := decide_eq_true c6
        clear c6
        replace H := Option.bind_eq_some_iff.mp H
        obtain ⟨t113, A70, H⟩ := H
        replace H : (some (t113 == (((a0_4) % 4294967296) + 18446744069414584320))) = some r := H
        have A7 := Aside0.mk A70
        clear A70
        obtain rfl := Option.some.inj H
        go_enter Try.func11, Try.ntmps11
        go_wp2_with (first | ((with_reducible refine gate_dst (N := 2) rfl ?_); refine box_event ?hg (N := 2) ?hd (cs := #[.int .u8 a0_0, .int .u8 a0_1, .int .u8 a0_2, .int .i16 a0_3, .int .i32 a0_4]) (t := 24) ?hr ?_; (case hd => rfl); (case hg => rfl); (case hr => first | (go_simp; done) | (go_simp; rfl)); intro gb111 hg w8 hbox hb; have n0_ := Aside0.mk (below_step (by repeat (first | (with_reducible first | exact HB.out | apply below_alloc | apply pw_below_drewN | apply below_drew1) | exact HB.out)) hb); have n1_ := Aside0.mk (hbox); have n2_ := Aside0.mk ((by rw [hg]; exact (below_size (by repeat (first | (with_reducible first | exact HB.out | apply below_alloc | apply pw_below_drewN | apply below_drew1) | exact HB.out))) : w.heap.size ≤ gb111)); have n3_ := Aside0.mk ((by rw [hg]; exact (below_size (by repeat (first | (with_reducible first | exact HB.out | apply below_alloc | apply pw_below_drewN | apply below_drew1) | exact HB.out))) : w.heap.size ≤ gb111)); clear HB; have HB := n0_; have BK111 := n1_; have GW111 := n2_; have GE111 := n3_; clear n0_ n1_ n2_ n3_; clear hb hbox hg) | ((with_reducible refine gate_callee (f := 29) rfl ?_); refine goesL_ (some 6) rfl rfl Try.func29 (by kernel_rfl) rfl #[] rfl (by (try simp only [List.map_toArray, List.map_cons, List.map_nil]); first | done | rfl | (simp only [List.length_drop, List.length_take]; rfl)) ?_; (with_reducible refine (posternlaw05_first.calls k  true _ A3.out).mono ?_); rintro e w' ⟨rfl, ⟨nd, rfl⟩⟩; refine ⟨_, rfl, ?_⟩; have hcz9_0 : w8.cell? ⟨gb111, 0, none⟩ = some (.int .u8 a0_0) := (blk_cell BK111.out 0).trans rfl; have hcz9_1 : w8.cell? ⟨gb111, 1, none⟩ = some (.int .u8 a0_1) := (blk_cell BK111.out 1).trans rfl; have hcz9_2 : w8.cell? ⟨gb111, 2, none⟩ = some (.int .u8 a0_2) := (blk_cell BK111.out 2).trans rfl; have hcz9_3 : w8.cell? ⟨gb111, 3, none⟩ = some (.int .i16 a0_3) := (blk_cell BK111.out 3).trans rfl; have hcz9_4 : w8.cell? ⟨gb111, 4, none⟩ = some (.int .i32 a0_4) := (blk_cell BK111.out 4).trans rfl; have hfz9_0 := blk_frozen BK111.out 0; have hfz9_1 := blk_frozen BK111.out 1; have hfz9_2 := blk_frozen BK111.out 2; have hfz9_3 := blk_frozen BK111.out 3; have hfz9_4 := blk_frozen BK111.out 4) | ((with_reducible refine gate_callee (f := 35) rfl ?_); refine goesL_ (some 25) rfl rfl Try.func35 (by kernel_rfl) rfl #[.agg #[.int .u8 a0_0, .int .u8 a0_1, .int .u8 a0_2, .int .i16 a0_3, .int .i32 a0_4], .int .u64 a1] rfl (by (try simp only [List.map_toArray, List.map_cons, List.map_nil]); first | done | rfl | (simp only [List.length_drop, List.length_take]; rfl)) ?_; (with_reducible refine (alu_Operand.calls a0_0 a0_1 a0_2 a0_3 a0_4 a1 t113 _ A7.out).mono ?_); rintro e w10 ⟨rfl, hb⟩; refine ⟨_, rfl, ?_⟩; have n0_ := Aside0.mk (blk_below (g := gb111) (o := .cells #[.int .u8 a0_0, .int .u8 a0_1, .int .u8 a0_2, .int .i16 a0_3, .int .i32 a0_4] 24 (0, 0)) (by (with_reducible repeat (first | refine blk_drewN ?_ _ | refine blk_drew ?_ | refine blk_alloc ?_ _)); exact BK111.out) hb); have n1_ := Aside0.mk (below_step (by repeat (first | (with_reducible first | exact HB.out | apply below_alloc | apply pw_below_drewN | apply below_drew1 | refine below_set ?_ GE111.out) | exact HB.out)) hb); clear BK111; clear HB; have BK111 := n0_; have HB := n1_; clear n0_ n1_; (try clear hb); (try clear hb2); (try clear hk); (try clear hi)))
        go_ret
        exact ⟨by first | rfl | (simp [errW_none, errW_some] <;> rfl) | (simp [*, errW_none, errW_some] <;> rfl), by repeat (first | (with_reducible first | exact HB.out | apply below_alloc | apply pw_below_drewN | apply below_drew1 | refine below_set ?_ GE111.out) | exact HB.out)⟩
      · rw [if_neg c6] at H
        have c6b0 : decide (a0_4 < 0) = false := decide_eq_false c6
        clear c6
        replace H := Option.bind_eq_some_iff.mp H
        obtain ⟨t114, A110, H⟩ := H
        replace H : (some (t114 == ((a0_4) % 4294967296))) = some r := H
        have A11 := Aside0.mk A110
        clear A110
        obtain rfl := Option.some.inj H
        go_enter Try.func11, Try.ntmps11
        go_wp2_with (first | ((with_reducible refine gate_dst (N := 2) rfl ?_); refine box_event ?hg (N := 2) ?hd (cs := #[.int .u8 a0_0, .int .u8 a0_1, .int .u8 a0_2, .int .i16 a0_3, .int .i32 a0_4]) (t := 24) ?hr ?_; (case hd => rfl); (case hg => rfl); (case hr => first | (go_simp; done) | (go_simp; rfl)); intro gb111 hg w12 hbox hb; have n0_ := Aside0.mk (below_step (by repeat (first | (with_reducible first | exact HB.out | apply below_alloc | apply pw_below_drewN | apply below_drew1) | exact HB.out)) hb); have n1_ := Aside0.mk (hbox); have n2_ := Aside0.mk ((by rw [hg]; exact (below_size (by repeat (first | (with_reducible first | exact HB.out | apply below_alloc | apply pw_below_drewN | apply below_drew1) | exact HB.out))) : w.heap.size ≤ gb111)); have n3_ := Aside0.mk ((by rw [hg]; exact (below_size (by repeat (first | (with_reducible first | exact HB.out | apply below_alloc | apply pw_below_drewN | apply below_drew1) | exact HB.out))) : w.heap.size ≤ gb111)); clear HB; have HB := n0_; have BK111 := n1_; have GW111 := n2_; have GE111 := n3_; clear n0_ n1_ n2_ n3_; clear hb hbox hg) | ((with_reducible refine gate_callee (f := 29) rfl ?_); refine goesL_ (some 6) rfl rfl Try.func29 (by kernel_rfl) rfl #[] rfl (by (try simp only [List.map_toArray, List.map_cons, List.map_nil]); first | done | rfl | (simp only [List.length_drop, List.length_take]; rfl)) ?_; (with_reducible refine (posternlaw05_first.calls k  true _ A3.out).mono ?_); rintro e w' ⟨rfl, ⟨nd, rfl⟩⟩; refine ⟨_, rfl, ?_⟩; have hcz13_0 : w12.cell? ⟨gb111, 0, none⟩ = some (.int .u8 a0_0) := (blk_cell BK111.out 0).trans rfl; have hcz13_1 : w12.cell? ⟨gb111, 1, none⟩ = some (.int .u8 a0_1) := (blk_cell BK111.out 1).trans rfl; have hcz13_2 : w12.cell? ⟨gb111, 2, none⟩ = some (.int .u8 a0_2) := (blk_cell BK111.out 2).trans rfl; have hcz13_3 : w12.cell? ⟨gb111, 3, none⟩ = some (.int .i16 a0_3) := (blk_cell BK111.out 3).trans rfl; have hcz13_4 : w12.cell? ⟨gb111, 4, none⟩ = some (.int .i32 a0_4) := (blk_cell BK111.out 4).trans rfl; have hfz13_0 := blk_frozen BK111.out 0; have hfz13_1 := blk_frozen BK111.out 1; have hfz13_2 := blk_frozen BK111.out 2; have hfz13_3 := blk_frozen BK111.out 3; have hfz13_4 := blk_frozen BK111.out 4) | ((with_reducible refine gate_callee (f := 35) rfl ?_); refine goesL_ (some 25) rfl rfl Try.func35 (by kernel_rfl) rfl #[.agg #[.int .u8 a0_0, .int .u8 a0_1, .int .u8 a0_2, .int .i16 a0_3, .int .i32 a0_4], .int .u64 a1] rfl (by (try simp only [List.map_toArray, List.map_cons, List.map_nil]); first | done | rfl | (simp only [List.length_drop, List.length_take]; rfl)) ?_; (with_reducible refine (alu_Operand.calls a0_0 a0_1 a0_2 a0_3 a0_4 a1 t114 _ A11.out).mono ?_); rintro e w14 ⟨rfl, hb⟩; refine ⟨_, rfl, ?_⟩; have n0_ := Aside0.mk (blk_below (g := gb111) (o := .cells #[.int .u8 a0_0, .int .u8 a0_1, .int .u8 a0_2, .int .i16 a0_3, .int .i32 a0_4] 24 (0, 0)) (by (with_reducible repeat (first | refine blk_drewN ?_ _ | refine blk_drew ?_ | refine blk_alloc ?_ _)); exact BK111.out) hb); have n1_ := Aside0.mk (below_step (by repeat (first | (with_reducible first | exact HB.out | apply below_alloc | apply pw_below_drewN | apply below_drew1 | refine below_set ?_ GE111.out) | exact HB.out)) hb); clear BK111; clear HB; have BK111 := n0_; have HB := n1_; clear n0_ n1_; (try clear hb); (try clear hb2); (try clear hk); (try clear hi)))
        go_ret
        exact ⟨by first | rfl | (simp [errW_none, errW_some] <;> rfl) | (simp [*, errW_none, errW_some] <;> rfl), by repeat (first | (with_reducible first | exact HB.out | apply below_alloc | apply pw_below_drewN | apply below_drew1 | refine below_set ?_ GE111.out) | exact HB.out)⟩
    · rw [if_neg c5] at H
      have c5b0 : ((((Int.tdiv a0_0 8) % 256) % 2) == 0) = false := beq_eq_false_iff_ne.mpr c5
      have c5b1 : ((((Int.tdiv a0_0 8) % 256) % 2) != 0) = true := bne_iff_ne.mpr c5
      replace H := Option.bind_eq_some_iff.mp H
      obtain ⟨t115, A150, H⟩ := H
      replace H : (some (t115 == a1)) = some r := H
      have A15 := Aside0.mk A150
      clear A150
      obtain rfl := Option.some.inj H
      go_enter Try.func11, Try.ntmps11
      go_wp2_with (first | ((with_reducible refine gate_dst (N := 2) rfl ?_); refine box_event ?hg (N := 2) ?hd (cs := #[.int .u8 a0_0, .int .u8 a0_1, .int .u8 a0_2, .int .i16 a0_3, .int .i32 a0_4]) (t := 24) ?hr ?_; (case hd => rfl); (case hg => rfl); (case hr => first | (go_simp; done) | (go_simp; rfl)); intro gb111 hg w16 hbox hb; have n0_ := Aside0.mk (below_step (by repeat (first | (with_reducible first | exact HB.out | apply below_alloc | apply pw_below_drewN | apply below_drew1) | exact HB.out)) hb); have n1_ := Aside0.mk (hbox); have n2_ := Aside0.mk ((by rw [hg]; exact (below_size (by repeat (first | (with_reducible first | exact HB.out | apply below_alloc | apply pw_below_drewN | apply below_drew1) | exact HB.out))) : w.heap.size ≤ gb111)); have n3_ := Aside0.mk ((by rw [hg]; exact (below_size (by repeat (first | (with_reducible first | exact HB.out | apply below_alloc | apply pw_below_drewN | apply below_drew1) | exact HB.out))) : w.heap.size ≤ gb111)); clear HB; have HB := n0_; have BK111 := n1_; have GW111 := n2_; have GE111 := n3_; clear n0_ n1_ n2_ n3_; clear hb hbox hg) | ((with_reducible refine gate_callee (f := 29) rfl ?_); refine goesL_ (some 6) rfl rfl Try.func29 (by kernel_rfl) rfl #[] rfl (by (try simp only [List.map_toArray, List.map_cons, List.map_nil]); first | done | rfl | (simp only [List.length_drop, List.length_take]; rfl)) ?_; (with_reducible refine (posternlaw05_first.calls k  true _ A3.out).mono ?_); rintro e w' ⟨rfl, ⟨nd, rfl⟩⟩; refine ⟨_, rfl, ?_⟩; have hcz17_0 : w16.cell? ⟨gb111, 0, none⟩ = some (.int .u8 a0_0) := (blk_cell BK111.out 0).trans rfl; have hcz17_1 : w16.cell? ⟨gb111, 1, none⟩ = some (.int .u8 a0_1) := (blk_cell BK111.out 1).trans rfl; have hcz17_2 : w16.cell? ⟨gb111, 2, none⟩ = some (.int .u8 a0_2) := (blk_cell BK111.out 2).trans rfl; have hcz17_3 : w16.cell? ⟨gb111, 3, none⟩ = some (.int .i16 a0_3) := (blk_cell BK111.out 3).trans rfl; have hcz17_4 : w16.cell? ⟨gb111, 4, none⟩ = some (.int .i32 a0_4) := (blk_cell BK111.out 4).trans rfl; have hfz17_0 := blk_frozen BK111.out 0; have hfz17_1 := blk_frozen BK111.out 1; have hfz17_2 := blk_frozen BK111.out 2; have hfz17_3 := blk_frozen BK111.out 3; have hfz17_4 := blk_frozen BK111.out 4) | ((with_reducible refine gate_callee (f := 35) rfl ?_); refine goesL_ (some 25) rfl rfl Try.func35 (by kernel_rfl) rfl #[.agg #[.int .u8 a0_0, .int .u8 a0_1, .int .u8 a0_2, .int .i16 a0_3, .int .i32 a0_4], .int .u64 a1] rfl (by (try simp only [List.map_toArray, List.map_cons, List.map_nil]); first | done | rfl | (simp only [List.length_drop, List.length_take]; rfl)) ?_; (with_reducible refine (alu_Operand.calls a0_0 a0_1 a0_2 a0_3 a0_4 a1 t115 _ A15.out).mono ?_); rintro e w18 ⟨rfl, hb⟩; refine ⟨_, rfl, ?_⟩; have n0_ := Aside0.mk (blk_below (g := gb111) (o := .cells #[.int .u8 a0_0, .int .u8 a0_1, .int .u8 a0_2, .int .i16 a0_3, .int .i32 a0_4] 24 (0, 0)) (by (with_reducible repeat (first | refine blk_drewN ?_ _ | refine blk_drew ?_ | refine blk_alloc ?_ _)); exact BK111.out) hb); have n1_ := Aside0.mk (below_step (by repeat (first | (with_reducible first | exact HB.out | apply below_alloc | apply pw_below_drewN | apply below_drew1 | refine below_set ?_ GE111.out) | exact HB.out)) hb); clear BK111; clear HB; have BK111 := n0_; have HB := n1_; clear n0_ n1_; (try clear hb); (try clear hb2); (try clear hk); (try clear hi)))
      go_ret
      exact ⟨by first | rfl | (simp [errW_none, errW_some] <;> rfl) | (simp [*, errW_none, errW_some] <;> rfl), by repeat (first | (with_reducible first | exact HB.out | apply below_alloc | apply pw_below_drewN | apply below_drew1 | refine below_set ?_ GE111.out) | exact HB.out)⟩
  · replace c4 := Bool.eq_false_iff.mpr c4
    subst c4
    have H1 : (some false) = some r := by rw [if_neg (show ¬ (false = true) by decide)] at H; exact H
    clear H
    have H := H1
    clear H1
    obtain rfl := Option.some.inj H
    go_enter Try.func11, Try.ntmps11
    go_wp2_with (first | ((with_reducible refine gate_dst (N := 2) rfl ?_); refine box_event ?hg (N := 2) ?hd (cs := #[.int .u8 a0_0, .int .u8 a0_1, .int .u8 a0_2, .int .i16 a0_3, .int .i32 a0_4]) (t := 24) ?hr ?_; (case hd => rfl); (case hg => rfl); (case hr => first | (go_simp; done) | (go_simp; rfl)); intro gb111 hg w19 hbox hb; have n0_ := Aside0.mk (below_step (by repeat (first | (with_reducible first | exact HB.out | apply below_alloc | apply pw_below_drewN | apply below_drew1) | exact HB.out)) hb); have n1_ := Aside0.mk (hbox); have n2_ := Aside0.mk ((by rw [hg]; exact (below_size (by repeat (first | (with_reducible first | exact HB.out | apply below_alloc | apply pw_below_drewN | apply below_drew1) | exact HB.out))) : w.heap.size ≤ gb111)); have n3_ := Aside0.mk ((by rw [hg]; exact (below_size (by repeat (first | (with_reducible first | exact HB.out | apply below_alloc | apply pw_below_drewN | apply below_drew1) | exact HB.out))) : w.heap.size ≤ gb111)); clear HB; have HB := n0_; have BK111 := n1_; have GW111 := n2_; have GE111 := n3_; clear n0_ n1_ n2_ n3_; clear hb hbox hg) | ((with_reducible refine gate_callee (f := 29) rfl ?_); refine goesL_ (some 6) rfl rfl Try.func29 (by kernel_rfl) rfl #[] rfl (by (try simp only [List.map_toArray, List.map_cons, List.map_nil]); first | done | rfl | (simp only [List.length_drop, List.length_take]; rfl)) ?_; (with_reducible refine (posternlaw05_first.calls k  false _ A3.out).mono ?_); rintro e w' ⟨rfl, ⟨nd, rfl⟩⟩; refine ⟨_, rfl, ?_⟩))
    go_ret
    exact ⟨by first | rfl | (simp [errW_none, errW_some] <;> rfl) | (simp [*, errW_none, errW_some] <;> rfl), by repeat (first | (with_reducible first | exact HB.out | apply below_alloc | apply pw_below_drewN | apply below_drew1 | refine below_set ?_ GE111.out) | exact HB.out)⟩

end Go.Proofs.Ytpkgegklpbholaa.PAluOperand
