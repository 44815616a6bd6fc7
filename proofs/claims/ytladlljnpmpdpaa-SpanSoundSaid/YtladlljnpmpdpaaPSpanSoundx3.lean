-- Written by a program of this session (a variant of the print), for this claim. Lean checks it.
import Derived.Test.YtladlljnpmpdpaaPSpanSoundx0
import Derived.Test.YtladlljnpmpdpaaPSpanSoundx2
namespace Go.Proofs.Ytladlljnpmpdpaa.PSpanSound
open Go.RowKit Go.Proofs.YtladlljnpmpdpaaW.PrintWords Go.Proofs.YtladlljnpmpdpaaW.PrintLast Go.Proofs.YtladlljnpmpdpaaW.PrintMore
attribute [local go_sem] max2_int min2_int max_two min_two max_three min_three max_four min_four   -- for this text's walks alone
attribute [local go_sem high] Go.Proofs.Ytladlljnpmpdpaa.NotLaw.not_u64 Go.Proofs.Ytladlljnpmpdpaa.NotLaw.not_u32 Go.Proofs.Ytladlljnpmpdpaa.NotLaw.not_u16 Go.Proofs.Ytladlljnpmpdpaa.NotLaw.not_u8
set_option linter.unusedVariables false
set_option linter.unusedSimpArgs false

/-! ### posternref05_Do: function 15 -/
mutual
def posternref05_Do.j0 : Nat → Int → Int → Int → Int → Bool → Option (Int × Bool)
 | 0, _, _, _, _, _ => none
 | k + 1, x0, x1, x2, x3, x23 => if x23 = true then (some (0, false)) else (if x1 = 32 then (posternref05_Do.j1 k x0 x1 (Int.tmod x2 4294967296) (Int.tmod x3 4294967296)) else (posternref05_Do.j1 k x0 x1 x2 x3))
def posternref05_Do.j1 : Nat → Int → Int → Int → Int → Option (Int × Bool)
 | 0, _, _, _, _ => none
 | k + 1, x0, x1, x2, x3 => if (IntKind.u64.wrap (x1)) = 0 then (none) else (if (wrap64 (Int.tdiv x0 16)) = 0 then (if x1 = 32 then (some (Int.tmod (IntKind.u64.wrap (x2 + x3)) 4294967296, true)) else (some (IntKind.u64.wrap (x2 + x3), true))) else (if (wrap64 (Int.tdiv x0 16)) = 1 then (if x1 = 32 then (some (Int.tmod (IntKind.u64.wrap ((IntKind.u64.wrap (x2 + (Go.bits .xor .u64 18446744073709551615 x3))) + 1)) 4294967296, true)) else (some (IntKind.u64.wrap ((IntKind.u64.wrap (x2 + (Go.bits .xor .u64 18446744073709551615 x3))) + 1), true))) else (if (wrap64 (Int.tdiv x0 16)) = 2 then (if x1 = 32 then (some (Int.tmod (IntKind.u64.wrap (x2 * x3)) 4294967296, true)) else (some (IntKind.u64.wrap (x2 * x3), true))) else (if (wrap64 (Int.tdiv x0 16)) = 3 then (if x3 > 0 then (if x3 = 0 then (none) else (if x1 = 32 then (some (Int.tmod (IntKind.u64.wrap (Int.tdiv x2 x3)) 4294967296, true)) else (some (IntKind.u64.wrap (Int.tdiv x2 x3), true)))) else (if x1 = 32 then (some ((0 : Int) % 4294967296, true)) else (some (0, true)))) else (if (wrap64 (Int.tdiv x0 16)) = 4 then (if x1 = 32 then (some (Int.tmod (Go.bits .or .u64 x2 x3) 4294967296, true)) else (some (Go.bits .or .u64 x2 x3, true))) else (if (wrap64 (Int.tdiv x0 16)) = 5 then (if x1 = 32 then (some (Int.tmod (Go.bits .and .u64 x2 x3) 4294967296, true)) else (some (Go.bits .and .u64 x2 x3, true))) else (if (wrap64 (Int.tdiv x0 16)) = 6 then ((posternref05_pow.f k (Int.tmod x3 (IntKind.u64.wrap (x1)))).bind fun t101 => (if x1 = 32 then (some (Int.tmod (IntKind.u64.wrap (x2 * t101)) 4294967296, true)) else (some (IntKind.u64.wrap (x2 * t101), true)))) else (if (wrap64 (Int.tdiv x0 16)) = 7 then ((posternref05_pow.f k (Int.tmod x3 (IntKind.u64.wrap (x1)))).bind fun t102 => (if t102 = 0 then (none) else (if x1 = 32 then (some (Int.tmod (IntKind.u64.wrap (Int.tdiv x2 t102)) 4294967296, true)) else (some (IntKind.u64.wrap (Int.tdiv x2 t102), true))))) else (if (wrap64 (Int.tdiv x0 16)) = 8 then (if x1 = 32 then (some (Int.tmod (IntKind.u64.wrap ((Go.bits .xor .u64 18446744073709551615 x2) + 1)) 4294967296, true)) else (some (IntKind.u64.wrap ((Go.bits .xor .u64 18446744073709551615 x2) + 1), true))) else (if (wrap64 (Int.tdiv x0 16)) = 9 then (if x3 > 0 then (if x3 = 0 then (none) else (if x1 = 32 then (some (Int.tmod (IntKind.u64.wrap (x2 - (IntKind.u64.wrap ((IntKind.u64.wrap (Int.tdiv x2 x3)) * x3)))) 4294967296, true)) else (some (IntKind.u64.wrap (x2 - (IntKind.u64.wrap ((IntKind.u64.wrap (Int.tdiv x2 x3)) * x3))), true)))) else (if x1 = 32 then (some (Int.tmod x2 4294967296, true)) else (some (x2, true)))) else (if (wrap64 (Int.tdiv x0 16)) = 10 then (if x1 = 32 then (some (Int.tmod (IntKind.u64.wrap ((Go.bits .or .u64 x2 x3) - (Go.bits .and .u64 x2 x3))) 4294967296, true)) else (some (IntKind.u64.wrap ((Go.bits .or .u64 x2 x3) - (Go.bits .and .u64 x2 x3)), true))) else (if (wrap64 (Int.tdiv x0 16)) = 11 then (if x1 = 32 then (some (Int.tmod x3 4294967296, true)) else (some (x3, true))) else (if (wrap64 (Int.tdiv x0 16)) = 12 then ((posternref05_pow.f k (Int.tmod x3 (IntKind.u64.wrap (x1)))).bind fun t103 => (if t103 = 0 then (none) else ((posternref05_pow.f k (IntKind.u64.wrap (wrap64 (x1 - 1)))).bind fun t104 => (if x2 ≥ t104 then (posternref05_Do.l0 k x1 (Int.tmod x3 (IntKind.u64.wrap (x1))) (IntKind.u64.wrap (Int.tdiv x2 t103)) 0) else (if x1 = 32 then (some (Int.tmod (IntKind.u64.wrap (Int.tdiv x2 t103)) 4294967296, true)) else (some (IntKind.u64.wrap (Int.tdiv x2 t103), true))))))) else (if x1 = 32 then (some ((0 : Int) % 4294967296, true)) else (some (0, true))))))))))))))))
def posternref05_Do.l0 : Nat → Int → Int → Int → Int → Option (Int × Bool)
 | 0, _, _, _, _ => none
 | k + 1, x1, x10, x11, x12 => if x12 < x10 then ((posternref05_pow.f k (IntKind.u64.wrap ((IntKind.u64.wrap (wrap64 (x1 - 1))) - x12))).bind fun t105 => (posternref05_Do.l0 k x1 x10 (IntKind.u64.wrap (x11 + t105)) (IntKind.u64.wrap (x12 + 1)))) else (if x1 = 32 then (some (Int.tmod x11 4294967296, true)) else (some (x11, true)))
end
def posternref05_Do.f (k : Nat) (a0 : Int) (a1 : Int) (a2 : Int) (a3 : Int) : Option (Int × Bool) := if (Int.tmod a0 16) = 0 then (if a0 < 0 then (posternref05_Do.j0 k a0 a1 a2 a3 true) else (posternref05_Do.j0 k a0 a1 a2 a3 (decide (a0 > 192)))) else (posternref05_Do.j0 k a0 a1 a2 a3 true)
theorem posternref05_Do.mono_l : ∀ k, (∀ y0 y1 y2 y3 y4, LeO (posternref05_Do.j0 k y0 y1 y2 y3 y4) (posternref05_Do.j0 (k + 1) y0 y1 y2 y3 y4)) ∧ (∀ y0 y1 y2 y3, LeO (posternref05_Do.j1 k y0 y1 y2 y3) (posternref05_Do.j1 (k + 1) y0 y1 y2 y3)) ∧ (∀ y0 y1 y2 y3, LeO (posternref05_Do.l0 k y0 y1 y2 y3) (posternref05_Do.l0 (k + 1) y0 y1 y2 y3))
 | 0 => ⟨fun _ _ _ _ _ r h => by simp [posternref05_Do.j0] at h, fun _ _ _ _ r h => by simp [posternref05_Do.j1] at h, fun _ _ _ _ r h => by simp [posternref05_Do.l0] at h⟩
 | k + 1 => by
  obtain ⟨ih0, ih1, ih2⟩ := posternref05_Do.mono_l k
  refine ⟨?_, ?_, ?_⟩
  ·
   intro y0 y1 y2 y3 y4
   unfold posternref05_Do.j0
   repeat' first
   | (with_reducible exact ih0 _ _ _ _ _)
   | (with_reducible exact ih1 _ _ _ _)
   | (with_reducible exact ih2 _ _ _ _)
   | (with_reducible exact posternref05_pow.mono _ _)
   | (with_reducible exact LeO.refl _)
   | (with_reducible exact LeO.none _)
   | (with_reducible refine LeO.ite ?_ ?_)
   | (with_reducible refine LeO.bind ?_ (fun _ => ?_))
   | exact ih0 _ _ _ _ _
   | exact ih1 _ _ _ _
   | exact ih2 _ _ _ _
   | exact posternref05_pow.mono _ _
   | exact LeO.none _
   | refine LeO.ite ?_ ?_
   | refine LeO.bind ?_ (fun _ => ?_)
  ·
   intro y0 y1 y2 y3
   unfold posternref05_Do.j1
   repeat' first
   | (with_reducible exact ih0 _ _ _ _ _)
   | (with_reducible exact ih1 _ _ _ _)
   | (with_reducible exact ih2 _ _ _ _)
   | (with_reducible exact posternref05_pow.mono _ _)
   | (with_reducible exact LeO.refl _)
   | (with_reducible exact LeO.none _)
   | (with_reducible refine LeO.ite ?_ ?_)
   | (with_reducible refine LeO.bind ?_ (fun _ => ?_))
   | exact ih0 _ _ _ _ _
   | exact ih1 _ _ _ _
   | exact ih2 _ _ _ _
   | exact posternref05_pow.mono _ _
   | exact LeO.none _
   | refine LeO.ite ?_ ?_
   | refine LeO.bind ?_ (fun _ => ?_)
  ·
   intro y0 y1 y2 y3
   unfold posternref05_Do.l0
   repeat' first
   | (with_reducible exact ih0 _ _ _ _ _)
   | (with_reducible exact ih1 _ _ _ _)
   | (with_reducible exact ih2 _ _ _ _)
   | (with_reducible exact posternref05_pow.mono _ _)
   | (with_reducible exact LeO.refl _)
   | (with_reducible exact LeO.none _)
   | (with_reducible refine LeO.ite ?_ ?_)
   | (with_reducible refine LeO.bind ?_ (fun _ => ?_))
   | exact ih0 _ _ _ _ _
   | exact ih1 _ _ _ _
   | exact ih2 _ _ _ _
   | exact posternref05_pow.mono _ _
   | exact LeO.none _
   | refine LeO.ite ?_ ?_
   | refine LeO.bind ?_ (fun _ => ?_)
theorem posternref05_Do.mono : ∀ a0 a1 a2 a3 k, LeO (posternref05_Do.f k a0 a1 a2 a3) (posternref05_Do.f (k + 1) a0 a1 a2 a3) := by
 intro a0 a1 a2 a3 k
 obtain ⟨ih0, ih1, ih2⟩ := posternref05_Do.mono_l k
 unfold posternref05_Do.f
 repeat' first
   | (with_reducible exact ih0 _ _ _ _ _)
   | (with_reducible exact ih1 _ _ _ _)
   | (with_reducible exact ih2 _ _ _ _)
   | (with_reducible exact posternref05_pow.mono _ _)
   | (with_reducible exact LeO.refl _)
   | (with_reducible exact LeO.none _)
   | (with_reducible refine LeO.ite ?_ ?_)
   | (with_reducible refine LeO.bind ?_ (fun _ => ?_))
   | exact ih0 _ _ _ _ _
   | exact ih1 _ _ _ _
   | exact ih2 _ _ _ _
   | exact posternref05_pow.mono _ _
   | exact LeO.none _
   | refine LeO.ite ?_ ?_
   | refine LeO.bind ?_ (fun _ => ?_)
set_option maxHeartbeats 8000000 in
set_option maxRecDepth 100000 in
theorem posternref05_Do.calls (k : Nat) (a0 : Int) (a1 : Int) (a2 : Int) (a3 : Int) (r1 : Int) (r2 : Bool) (w : World) (h : posternref05_Do.f k a0 a1 a2 a3 = some (r1, r2)) :
  Calls Try.prog 15 #[.int .i64 a0, .int .i64 a1, .int .u64 a2, .int .u64 a3] w fun e w' => e = .returned (.tuple #[.int .u64 r1, .bool r2]) ∧ Drawn0 w w' := by
 have H : (if (Int.tmod a0 16) = 0 then (if a0 < 0 then (posternref05_Do.j0 k a0 a1 a2 a3 true) else (posternref05_Do.j0 k a0 a1 a2 a3 (decide (a0 > 192)))) else (posternref05_Do.j0 k a0 a1 a2 a3 true)) = some (r1, r2) := h
 clear h
 have HC5 := Aside0.mk H
 clear H
 go_enter Try.func15, Try.ntmps15
 go_upto_region 1 with (fail)
 go_cut [23] (fun v23 wc => ∃ (kq : Nat) (x23_4 : Bool), v23 = .bool x23_4 ∧ Aside0 (posternref05_Do.j0 kq a0 a1 a2 a3 x23_4 = some (r1, r2)) ∧ Aside0 (kq ≤ k) ∧ Drawn0 w wc)
 case first =>
  have H := HC5.out
  clear HC5
  by_cases c6 : (Int.tmod a0 16) = 0
  ·
   rw [if_pos c6] at H
   have c6b0 : ((Int.tmod a0 16) == 0) = true := beq_iff_eq.mpr c6; have c6b1 : ((Int.tmod a0 16) != 0) = false := bne_eq_false_iff_eq.mpr c6; clear c6
   (first | rw [c6b0] | (simp only [i64_w, i32_w]; rw [c6b0]) | skip)
   by_cases c7 : a0 < 0
   ·
    rw [if_pos c7] at H
    have c7b0 : decide (a0 < 0) = true := decide_eq_true c7; clear c7
    have H' := Aside0.mk H
    clear H
    go_wp2
    go_meet
    case rel => exact ⟨_, (true), (by first | rfl | (simp; done) | (simp [*]; done)), H', ⟨by first | omega | exact Nat.le_refl _⟩, by repeat (first | exact Drawn0.refl _ | apply Drawn0.step)⟩
   ·
    rw [if_neg c7] at H
    have c7b0 : decide (a0 < 0) = false := decide_eq_false c7; clear c7
    have H' := Aside0.mk H
    clear H
    go_wp2
    go_meet
    case rel => exact ⟨_, (decide (a0 > 192)), (by first | rfl | (simp; done) | (simp [*]; done)), H', ⟨by first | omega | exact Nat.le_refl _⟩, by repeat (first | exact Drawn0.refl _ | apply Drawn0.step)⟩
  ·
   rw [if_neg c6] at H
   have c6b0 : ((Int.tmod a0 16) == 0) = false := beq_eq_false_iff_ne.mpr c6; have c6b1 : ((Int.tmod a0 16) != 0) = true := bne_iff_ne.mpr c6
   (first | rw [c6b0] | (simp only [i64_w, i32_w]; rw [c6b0]) | skip)
   have H' := Aside0.mk H
   clear H
   go_wp2
   go_meet
   case rel => exact ⟨_, (true), (by first | rfl | (simp; done) | (simp [*]; done)), H', ⟨by first | omega | exact Nat.le_refl _⟩, by repeat (first | exact Drawn0.refl _ | apply Drawn0.step)⟩
 case rest =>
  clear HC5
  try clear c1
  try clear p2
  try clear c6
  try clear c6b0
  try clear c6b1
  try clear c7
  try clear c7b0
  obtain ⟨kq, x23_4, rfl, HA, HJ4, ⟨mc4, rfl⟩⟩ := hcut
  cases kq with
  | zero => exact absurd HA.out (by simp [posternref05_Do.j0])
  | succ kj4 =>
   have H := HA.out
   clear HA
   simp only [posternref05_Do.j0] at H
   by_cases c8 : x23_4 = true
   ·
    subst c8
    have H1 : (some (0, false)) = some (r1, r2) := by rw [if_pos rfl] at H; exact H
    clear H; have H := H1; clear H1; simp only [Option.some.injEq, Prod.mk.injEq] at H; obtain ⟨rfl, rfl⟩ := H
    go_wp2
    go_ret2
    exact ⟨by first | rfl | (simp; done) | (simp [*]; done), by repeat (first | exact Drawn0.refl _ | apply Drawn0.step)⟩
   ·
    replace c8 := Bool.eq_false_iff.mpr c8
    subst c8
    have H1 : (if a1 = 32 then (posternref05_Do.j1 kj4 a0 a1 (Int.tmod a2 4294967296) (Int.tmod a3 4294967296)) else (posternref05_Do.j1 kj4 a0 a1 a2 a3)) = some (r1, r2) := by rw [if_neg (show ¬ (false = true) by decide)] at H; exact H
    clear H; have H := H1; clear H1
    have HC9 := Aside0.mk H
    clear H
    go_upto_if 25 with (fail)
    go_cut [2, 3] (fun v2 v3 wc => ∃ (kq : Nat) (x2_8 : Int) (x3_8 : Int), v2 = .int .u64 x2_8 ∧ v3 = .int .u64 x3_8 ∧ Aside0 (posternref05_Do.j1 kq a0 a1 x2_8 x3_8 = some (r1, r2)) ∧ Aside0 (kq ≤ kj4) ∧ Drawn0 w wc)
    case first =>
     have H := HC9.out
     clear HC9
     by_cases c10 : a1 = 32
     ·
      rw [if_pos c10] at H
      have c10b0 : (a1 == 32) = true := beq_iff_eq.mpr c10; have c10b1 : (a1 != 32) = false := bne_eq_false_iff_eq.mpr c10; clear c10
      (first | rw [c10b0] | (simp only [i64_w, i32_w]; rw [c10b0]) | skip)
      have H' := Aside0.mk H
      clear H
      go_wp2
      go_meet
      case rel => exact ⟨_, (Int.tmod a2 4294967296), (Int.tmod a3 4294967296), (by first | rfl | (simp; done) | (simp [*]; done)), (by first | rfl | (simp; done) | (simp [*]; done)), H', ⟨by have := HJ4.out; first | omega | exact Nat.le_refl _⟩, by repeat (first | exact Drawn0.refl _ | apply Drawn0.step)⟩
     ·
      rw [if_neg c10] at H
      have c10b0 : (a1 == 32) = false := beq_eq_false_iff_ne.mpr c10; have c10b1 : (a1 != 32) = true := bne_iff_ne.mpr c10
      (first | rw [c10b0] | (simp only [i64_w, i32_w]; rw [c10b0]) | skip)
      have H' := Aside0.mk H
      clear H
      go_wp2
      go_meet
      case rel => exact ⟨_, (a2), (a3), (by first | rfl | (simp; done) | (simp [*]; done)), (by first | rfl | (simp; done) | (simp [*]; done)), H', ⟨by have := HJ4.out; first | omega | exact Nat.le_refl _⟩, by repeat (first | exact Drawn0.refl _ | apply Drawn0.step)⟩
    case rest =>
     clear HC9
     try clear c1
     try clear p2
     try clear c4
     try clear c6
     try clear c6b0
     try clear c6b1
     try clear c7
     try clear c7b0
     try clear c8
     try clear c10
     try clear c10b0
     try clear c10b1
     try clear p2
     obtain ⟨kq, x2_8, x3_8, rfl, rfl, HA, HJ8, ⟨mc8, rfl⟩⟩ := hcut
     cases kq with
     | zero => exact absurd HA.out (by simp [posternref05_Do.j1])
     | succ kj8 =>
      have H := HA.out
      clear HA
      simp only [posternref05_Do.j1] at H
      by_cases c11 : (IntKind.u64.wrap (a1)) = 0
      ·
       rw [if_pos c11] at H
       exact absurd H (by simp)
      ·
       rw [if_neg c11] at H
       have c11b0 : ((IntKind.u64.wrap (a1)) == 0) = false := beq_eq_false_iff_ne.mpr c11; have c11b1 : ((IntKind.u64.wrap (a1)) != 0) = true := bne_iff_ne.mpr c11
       by_cases c12 : (wrap64 (Int.tdiv a0 16)) = 0
       ·
        rw [if_pos c12] at H
        have c12b0 : ((wrap64 (Int.tdiv a0 16)) == 0) = true := beq_iff_eq.mpr c12; have c12b1 : ((wrap64 (Int.tdiv a0 16)) != 0) = false := bne_eq_false_iff_eq.mpr c12; clear c12
        by_cases c13 : a1 = 32
        ·
         rw [if_pos c13] at H
         have c13b0 : (a1 == 32) = true := beq_iff_eq.mpr c13; have c13b1 : (a1 != 32) = false := bne_eq_false_iff_eq.mpr c13; clear c13; simp only [Option.some.injEq, Prod.mk.injEq] at H; obtain ⟨rfl, rfl⟩ := H
         go_wp2
         go_ret2
         exact ⟨by first | rfl | (simp; done) | (simp [*]; done), by repeat (first | exact Drawn0.refl _ | apply Drawn0.step)⟩
        ·
         rw [if_neg c13] at H
         have c13b0 : (a1 == 32) = false := beq_eq_false_iff_ne.mpr c13; have c13b1 : (a1 != 32) = true := bne_iff_ne.mpr c13; simp only [Option.some.injEq, Prod.mk.injEq] at H; obtain ⟨rfl, rfl⟩ := H
         go_wp2
         go_ret2
         exact ⟨by first | rfl | (simp; done) | (simp [*]; done), by repeat (first | exact Drawn0.refl _ | apply Drawn0.step)⟩
       ·
        rw [if_neg c12] at H
        have c12b0 : ((wrap64 (Int.tdiv a0 16)) == 0) = false := beq_eq_false_iff_ne.mpr c12; have c12b1 : ((wrap64 (Int.tdiv a0 16)) != 0) = true := bne_iff_ne.mpr c12
        by_cases c14 : (wrap64 (Int.tdiv a0 16)) = 1
        ·
         rw [if_pos c14] at H
         have c14b0 : ((wrap64 (Int.tdiv a0 16)) == 1) = true := beq_iff_eq.mpr c14; have c14b1 : ((wrap64 (Int.tdiv a0 16)) != 1) = false := bne_eq_false_iff_eq.mpr c14; clear c14
         by_cases c15 : a1 = 32
         ·
          rw [if_pos c15] at H
          have c15b0 : (a1 == 32) = true := beq_iff_eq.mpr c15; have c15b1 : (a1 != 32) = false := bne_eq_false_iff_eq.mpr c15; clear c15; simp only [Option.some.injEq, Prod.mk.injEq] at H; obtain ⟨rfl, rfl⟩ := H
          go_wp2
          go_ret2
          exact ⟨by first | rfl | (simp; done) | (simp [*]; done), by repeat (first | exact Drawn0.refl _ | apply Drawn0.step)⟩
         ·
          rw [if_neg c15] at H
          have c15b0 : (a1 == 32) = false := beq_eq_false_iff_ne.mpr c15; have c15b1 : (a1 != 32) = true := bne_iff_ne.mpr c15; simp only [Option.some.injEq, Prod.mk.injEq] at H; obtain ⟨rfl, rfl⟩ := H
          go_wp2
          go_ret2
          exact ⟨by first | rfl | (simp; done) | (simp [*]; done), by repeat (first | exact Drawn0.refl _ | apply Drawn0.step)⟩
        ·
         rw [if_neg c14] at H
         have c14b0 : ((wrap64 (Int.tdiv a0 16)) == 1) = false := beq_eq_false_iff_ne.mpr c14; have c14b1 : ((wrap64 (Int.tdiv a0 16)) != 1) = true := bne_iff_ne.mpr c14
         by_cases c16 : (wrap64 (Int.tdiv a0 16)) = 2
         ·
          rw [if_pos c16] at H
          have c16b0 : ((wrap64 (Int.tdiv a0 16)) == 2) = true := beq_iff_eq.mpr c16; have c16b1 : ((wrap64 (Int.tdiv a0 16)) != 2) = false := bne_eq_false_iff_eq.mpr c16; clear c16
          by_cases c17 : a1 = 32
          ·
           rw [if_pos c17] at H
           have c17b0 : (a1 == 32) = true := beq_iff_eq.mpr c17; have c17b1 : (a1 != 32) = false := bne_eq_false_iff_eq.mpr c17; clear c17; simp only [Option.some.injEq, Prod.mk.injEq] at H; obtain ⟨rfl, rfl⟩ := H
           go_wp2
           go_ret2
           exact ⟨by first | rfl | (simp; done) | (simp [*]; done), by repeat (first | exact Drawn0.refl _ | apply Drawn0.step)⟩
          ·
           rw [if_neg c17] at H
           have c17b0 : (a1 == 32) = false := beq_eq_false_iff_ne.mpr c17; have c17b1 : (a1 != 32) = true := bne_iff_ne.mpr c17; simp only [Option.some.injEq, Prod.mk.injEq] at H; obtain ⟨rfl, rfl⟩ := H
           go_wp2
           go_ret2
           exact ⟨by first | rfl | (simp; done) | (simp [*]; done), by repeat (first | exact Drawn0.refl _ | apply Drawn0.step)⟩
         ·
          rw [if_neg c16] at H
          have c16b0 : ((wrap64 (Int.tdiv a0 16)) == 2) = false := beq_eq_false_iff_ne.mpr c16; have c16b1 : ((wrap64 (Int.tdiv a0 16)) != 2) = true := bne_iff_ne.mpr c16
          by_cases c18 : (wrap64 (Int.tdiv a0 16)) = 3
          ·
           rw [if_pos c18] at H
           have c18b0 : ((wrap64 (Int.tdiv a0 16)) == 3) = true := beq_iff_eq.mpr c18; have c18b1 : ((wrap64 (Int.tdiv a0 16)) != 3) = false := bne_eq_false_iff_eq.mpr c18; clear c18
           by_cases c19 : x3_8 > 0
           ·
            rw [if_pos c19] at H
            have c19b0 : decide (0 < x3_8) = true := decide_eq_true c19; clear c19
            by_cases c20 : x3_8 = 0
            ·
             rw [if_pos c20] at H
             exact absurd H (by simp)
            ·
             rw [if_neg c20] at H
             have c20b0 : (x3_8 == 0) = false := beq_eq_false_iff_ne.mpr c20; have c20b1 : (x3_8 != 0) = true := bne_iff_ne.mpr c20
             by_cases c21 : a1 = 32
             ·
              rw [if_pos c21] at H
              have c21b0 : (a1 == 32) = true := beq_iff_eq.mpr c21; have c21b1 : (a1 != 32) = false := bne_eq_false_iff_eq.mpr c21; clear c21; simp only [Option.some.injEq, Prod.mk.injEq] at H; obtain ⟨rfl, rfl⟩ := H
              go_wp2
              go_ret2
              exact ⟨by first | rfl | (simp; done) | (simp [*]; done), by repeat (first | exact Drawn0.refl _ | apply Drawn0.step)⟩
             ·
              rw [if_neg c21] at H
              have c21b0 : (a1 == 32) = false := beq_eq_false_iff_ne.mpr c21; have c21b1 : (a1 != 32) = true := bne_iff_ne.mpr c21; simp only [Option.some.injEq, Prod.mk.injEq] at H; obtain ⟨rfl, rfl⟩ := H
              go_wp2
              go_ret2
              exact ⟨by first | rfl | (simp; done) | (simp [*]; done), by repeat (first | exact Drawn0.refl _ | apply Drawn0.step)⟩
           ·
            rw [if_neg c19] at H
            have c19b0 : decide (0 < x3_8) = false := decide_eq_false c19; clear c19
            by_cases c22 : a1 = 32
            ·
             rw [if_pos c22] at H
             have c22b0 : (a1 == 32) = true := beq_iff_eq.mpr c22; have c22b1 : (a1 != 32) = false := bne_eq_false_iff_eq.mpr c22; clear c22; simp only [Option.some.injEq, Prod.mk.injEq] at H; obtain ⟨rfl, rfl⟩ := H
             go_wp2
             go_ret2
             exact ⟨by first | rfl | (simp; done) | (simp [*]; done), by repeat (first | exact Drawn0.refl _ | apply Drawn0.step)⟩
            ·
             rw [if_neg c22] at H
             have c22b0 : (a1 == 32) = false := beq_eq_false_iff_ne.mpr c22; have c22b1 : (a1 != 32) = true := bne_iff_ne.mpr c22; simp only [Option.some.injEq, Prod.mk.injEq] at H; obtain ⟨rfl, rfl⟩ := H
             go_wp2
             go_ret2
             exact ⟨by first | rfl | (simp; done) | (simp [*]; done), by repeat (first | exact Drawn0.refl _ | apply Drawn0.step)⟩
          ·
           rw [if_neg c18] at H
           have c18b0 : ((wrap64 (Int.tdiv a0 16)) == 3) = false := beq_eq_false_iff_ne.mpr c18; have c18b1 : ((wrap64 (Int.tdiv a0 16)) != 3) = true := bne_iff_ne.mpr c18
           by_cases c23 : (wrap64 (Int.tdiv a0 16)) = 4
           ·
            rw [if_pos c23] at H
            have c23b0 : ((wrap64 (Int.tdiv a0 16)) == 4) = true := beq_iff_eq.mpr c23; have c23b1 : ((wrap64 (Int.tdiv a0 16)) != 4) = false := bne_eq_false_iff_eq.mpr c23; clear c23
            by_cases c24 : a1 = 32
            ·
             rw [if_pos c24] at H
             have c24b0 : (a1 == 32) = true := beq_iff_eq.mpr c24; have c24b1 : (a1 != 32) = false := bne_eq_false_iff_eq.mpr c24; clear c24; simp only [Option.some.injEq, Prod.mk.injEq] at H; obtain ⟨rfl, rfl⟩ := H
             go_wp2
             go_ret2
             exact ⟨by first | rfl | (simp; done) | (simp [*]; done), by repeat (first | exact Drawn0.refl _ | apply Drawn0.step)⟩
            ·
             rw [if_neg c24] at H
             have c24b0 : (a1 == 32) = false := beq_eq_false_iff_ne.mpr c24; have c24b1 : (a1 != 32) = true := bne_iff_ne.mpr c24; simp only [Option.some.injEq, Prod.mk.injEq] at H; obtain ⟨rfl, rfl⟩ := H
             go_wp2
             go_ret2
             exact ⟨by first | rfl | (simp; done) | (simp [*]; done), by repeat (first | exact Drawn0.refl _ | apply Drawn0.step)⟩
           ·
            rw [if_neg c23] at H
            have c23b0 : ((wrap64 (Int.tdiv a0 16)) == 4) = false := beq_eq_false_iff_ne.mpr c23; have c23b1 : ((wrap64 (Int.tdiv a0 16)) != 4) = true := bne_iff_ne.mpr c23
            by_cases c25 : (wrap64 (Int.tdiv a0 16)) = 5
            ·
             rw [if_pos c25] at H
             have c25b0 : ((wrap64 (Int.tdiv a0 16)) == 5) = true := beq_iff_eq.mpr c25; have c25b1 : ((wrap64 (Int.tdiv a0 16)) != 5) = false := bne_eq_false_iff_eq.mpr c25; clear c25
             by_cases c26 : a1 = 32
             ·
              rw [if_pos c26] at H
              have c26b0 : (a1 == 32) = true := beq_iff_eq.mpr c26; have c26b1 : (a1 != 32) = false := bne_eq_false_iff_eq.mpr c26; clear c26; simp only [Option.some.injEq, Prod.mk.injEq] at H; obtain ⟨rfl, rfl⟩ := H
              go_wp2
              go_ret2
              exact ⟨by first | rfl | (simp; done) | (simp [*]; done), by repeat (first | exact Drawn0.refl _ | apply Drawn0.step)⟩
             ·
              rw [if_neg c26] at H
              have c26b0 : (a1 == 32) = false := beq_eq_false_iff_ne.mpr c26; have c26b1 : (a1 != 32) = true := bne_iff_ne.mpr c26; simp only [Option.some.injEq, Prod.mk.injEq] at H; obtain ⟨rfl, rfl⟩ := H
              go_wp2
              go_ret2
              exact ⟨by first | rfl | (simp; done) | (simp [*]; done), by repeat (first | exact Drawn0.refl _ | apply Drawn0.step)⟩
            ·
             rw [if_neg c25] at H
             have c25b0 : ((wrap64 (Int.tdiv a0 16)) == 5) = false := beq_eq_false_iff_ne.mpr c25; have c25b1 : ((wrap64 (Int.tdiv a0 16)) != 5) = true := bne_iff_ne.mpr c25
             by_cases c27 : (wrap64 (Int.tdiv a0 16)) = 6
             ·
              rw [if_pos c27] at H
              have c27b0 : ((wrap64 (Int.tdiv a0 16)) == 6) = true := beq_iff_eq.mpr c27; have c27b1 : ((wrap64 (Int.tdiv a0 16)) != 6) = false := bne_eq_false_iff_eq.mpr c27; clear c27; replace H := Option.bind_eq_some_iff.mp H; obtain ⟨t101, A280, H⟩ := H
              replace H : (if a1 = 32 then (some (Int.tmod (IntKind.u64.wrap (x2_8 * t101)) 4294967296, true)) else (some (IntKind.u64.wrap (x2_8 * t101), true))) = some (r1, r2) := H
              have A28 := Aside0.mk A280; clear A280
              by_cases c29 : a1 = 32
              ·
               rw [if_pos c29] at H
               have c29b0 : (a1 == 32) = true := beq_iff_eq.mpr c29; have c29b1 : (a1 != 32) = false := bne_eq_false_iff_eq.mpr c29; clear c29; simp only [Option.some.injEq, Prod.mk.injEq] at H; obtain ⟨rfl, rfl⟩ := H
               go_wp2_with (first | ((with_reducible refine gate_callee (f := 46) rfl ?_); refine goesL_ (some 74) rfl rfl Try.func46 (by kernel_rfl) rfl #[.int .u64 (Int.tmod x3_8 (IntKind.u64.wrap (a1)))] rfl (by (try simp only [List.map_toArray, List.map_cons, List.map_nil]); first | done | rfl | (simp only [List.length_drop, List.length_take]; rfl)) ?_; (with_reducible refine (posternref05_pow.calls kj8 (Int.tmod x3_8 (IntKind.u64.wrap (a1))) t101 _ A28.out).mono ?_); rintro e w' ⟨rfl, ⟨nd, rfl⟩⟩; refine ⟨_, rfl, ?_⟩))
               go_ret2
               exact ⟨by first | rfl | (simp; done) | (simp [*]; done), by repeat (first | exact Drawn0.refl _ | apply Drawn0.step)⟩
              ·
               rw [if_neg c29] at H
               have c29b0 : (a1 == 32) = false := beq_eq_false_iff_ne.mpr c29; have c29b1 : (a1 != 32) = true := bne_iff_ne.mpr c29; simp only [Option.some.injEq, Prod.mk.injEq] at H; obtain ⟨rfl, rfl⟩ := H
               go_wp2_with (first | ((with_reducible refine gate_callee (f := 46) rfl ?_); refine goesL_ (some 74) rfl rfl Try.func46 (by kernel_rfl) rfl #[.int .u64 (Int.tmod x3_8 (IntKind.u64.wrap (a1)))] rfl (by (try simp only [List.map_toArray, List.map_cons, List.map_nil]); first | done | rfl | (simp only [List.length_drop, List.length_take]; rfl)) ?_; (with_reducible refine (posternref05_pow.calls kj8 (Int.tmod x3_8 (IntKind.u64.wrap (a1))) t101 _ A28.out).mono ?_); rintro e w' ⟨rfl, ⟨nd, rfl⟩⟩; refine ⟨_, rfl, ?_⟩))
               go_ret2
               exact ⟨by first | rfl | (simp; done) | (simp [*]; done), by repeat (first | exact Drawn0.refl _ | apply Drawn0.step)⟩
             ·
              rw [if_neg c27] at H
              have c27b0 : ((wrap64 (Int.tdiv a0 16)) == 6) = false := beq_eq_false_iff_ne.mpr c27; have c27b1 : ((wrap64 (Int.tdiv a0 16)) != 6) = true := bne_iff_ne.mpr c27
              by_cases c30 : (wrap64 (Int.tdiv a0 16)) = 7
              ·
               rw [if_pos c30] at H
               have c30b0 : ((wrap64 (Int.tdiv a0 16)) == 7) = true := beq_iff_eq.mpr c30; have c30b1 : ((wrap64 (Int.tdiv a0 16)) != 7) = false := bne_eq_false_iff_eq.mpr c30; clear c30; replace H := Option.bind_eq_some_iff.mp H; obtain ⟨t102, A310, H⟩ := H
               replace H : (if t102 = 0 then (none) else (if a1 = 32 then (some (Int.tmod (IntKind.u64.wrap (Int.tdiv x2_8 t102)) 4294967296, true)) else (some (IntKind.u64.wrap (Int.tdiv x2_8 t102), true)))) = some (r1, r2) := H
               have A31 := Aside0.mk A310; clear A310
               by_cases c32 : t102 = 0
               ·
                rw [if_pos c32] at H
                exact absurd H (by simp)
               ·
                rw [if_neg c32] at H
                have c32b0 : (t102 == 0) = false := beq_eq_false_iff_ne.mpr c32; have c32b1 : (t102 != 0) = true := bne_iff_ne.mpr c32
                by_cases c33 : a1 = 32
                ·
                 rw [if_pos c33] at H
                 have c33b0 : (a1 == 32) = true := beq_iff_eq.mpr c33; have c33b1 : (a1 != 32) = false := bne_eq_false_iff_eq.mpr c33; clear c33; simp only [Option.some.injEq, Prod.mk.injEq] at H; obtain ⟨rfl, rfl⟩ := H
                 go_wp2_with (first | ((with_reducible refine gate_callee (f := 46) rfl ?_); refine goesL_ (some 80) rfl rfl Try.func46 (by kernel_rfl) rfl #[.int .u64 (Int.tmod x3_8 (IntKind.u64.wrap (a1)))] rfl (by (try simp only [List.map_toArray, List.map_cons, List.map_nil]); first | done | rfl | (simp only [List.length_drop, List.length_take]; rfl)) ?_; (with_reducible refine (posternref05_pow.calls kj8 (Int.tmod x3_8 (IntKind.u64.wrap (a1))) t102 _ A31.out).mono ?_); rintro e w' ⟨rfl, ⟨nd, rfl⟩⟩; refine ⟨_, rfl, ?_⟩))
                 go_ret2
                 exact ⟨by first | rfl | (simp; done) | (simp [*]; done), by repeat (first | exact Drawn0.refl _ | apply Drawn0.step)⟩
                ·
                 rw [if_neg c33] at H
                 have c33b0 : (a1 == 32) = false := beq_eq_false_iff_ne.mpr c33; have c33b1 : (a1 != 32) = true := bne_iff_ne.mpr c33; simp only [Option.some.injEq, Prod.mk.injEq] at H; obtain ⟨rfl, rfl⟩ := H
                 go_wp2_with (first | ((with_reducible refine gate_callee (f := 46) rfl ?_); refine goesL_ (some 80) rfl rfl Try.func46 (by kernel_rfl) rfl #[.int .u64 (Int.tmod x3_8 (IntKind.u64.wrap (a1)))] rfl (by (try simp only [List.map_toArray, List.map_cons, List.map_nil]); first | done | rfl | (simp only [List.length_drop, List.length_take]; rfl)) ?_; (with_reducible refine (posternref05_pow.calls kj8 (Int.tmod x3_8 (IntKind.u64.wrap (a1))) t102 _ A31.out).mono ?_); rintro e w' ⟨rfl, ⟨nd, rfl⟩⟩; refine ⟨_, rfl, ?_⟩))
                 go_ret2
                 exact ⟨by first | rfl | (simp; done) | (simp [*]; done), by repeat (first | exact Drawn0.refl _ | apply Drawn0.step)⟩
              ·
               rw [if_neg c30] at H
               have c30b0 : ((wrap64 (Int.tdiv a0 16)) == 7) = false := beq_eq_false_iff_ne.mpr c30; have c30b1 : ((wrap64 (Int.tdiv a0 16)) != 7) = true := bne_iff_ne.mpr c30
               by_cases c34 : (wrap64 (Int.tdiv a0 16)) = 8
               ·
                rw [if_pos c34] at H
                have c34b0 : ((wrap64 (Int.tdiv a0 16)) == 8) = true := beq_iff_eq.mpr c34; have c34b1 : ((wrap64 (Int.tdiv a0 16)) != 8) = false := bne_eq_false_iff_eq.mpr c34; clear c34
                by_cases c35 : a1 = 32
                ·
                 rw [if_pos c35] at H
                 have c35b0 : (a1 == 32) = true := beq_iff_eq.mpr c35; have c35b1 : (a1 != 32) = false := bne_eq_false_iff_eq.mpr c35; clear c35; simp only [Option.some.injEq, Prod.mk.injEq] at H; obtain ⟨rfl, rfl⟩ := H
                 go_wp2
                 go_ret2
                 exact ⟨by first | rfl | (simp; done) | (simp [*]; done), by repeat (first | exact Drawn0.refl _ | apply Drawn0.step)⟩
                ·
                 rw [if_neg c35] at H
                 have c35b0 : (a1 == 32) = false := beq_eq_false_iff_ne.mpr c35; have c35b1 : (a1 != 32) = true := bne_iff_ne.mpr c35; simp only [Option.some.injEq, Prod.mk.injEq] at H; obtain ⟨rfl, rfl⟩ := H
                 go_wp2
                 go_ret2
                 exact ⟨by first | rfl | (simp; done) | (simp [*]; done), by repeat (first | exact Drawn0.refl _ | apply Drawn0.step)⟩
               ·
                rw [if_neg c34] at H
                have c34b0 : ((wrap64 (Int.tdiv a0 16)) == 8) = false := beq_eq_false_iff_ne.mpr c34; have c34b1 : ((wrap64 (Int.tdiv a0 16)) != 8) = true := bne_iff_ne.mpr c34
                by_cases c36 : (wrap64 (Int.tdiv a0 16)) = 9
                ·
                 rw [if_pos c36] at H
                 have c36b0 : ((wrap64 (Int.tdiv a0 16)) == 9) = true := beq_iff_eq.mpr c36; have c36b1 : ((wrap64 (Int.tdiv a0 16)) != 9) = false := bne_eq_false_iff_eq.mpr c36; clear c36
                 by_cases c37 : x3_8 > 0
                 ·
                  rw [if_pos c37] at H
                  have c37b0 : decide (0 < x3_8) = true := decide_eq_true c37; clear c37
                  by_cases c38 : x3_8 = 0
                  ·
                   rw [if_pos c38] at H
                   exact absurd H (by simp)
                  ·
                   rw [if_neg c38] at H
                   have c38b0 : (x3_8 == 0) = false := beq_eq_false_iff_ne.mpr c38; have c38b1 : (x3_8 != 0) = true := bne_iff_ne.mpr c38
                   by_cases c39 : a1 = 32
                   ·
                    rw [if_pos c39] at H
                    have c39b0 : (a1 == 32) = true := beq_iff_eq.mpr c39; have c39b1 : (a1 != 32) = false := bne_eq_false_iff_eq.mpr c39; clear c39; simp only [Option.some.injEq, Prod.mk.injEq] at H; obtain ⟨rfl, rfl⟩ := H
                    go_wp2
                    go_ret2
                    exact ⟨by first | rfl | (simp; done) | (simp [*]; done), by repeat (first | exact Drawn0.refl _ | apply Drawn0.step)⟩
                   ·
                    rw [if_neg c39] at H
                    have c39b0 : (a1 == 32) = false := beq_eq_false_iff_ne.mpr c39; have c39b1 : (a1 != 32) = true := bne_iff_ne.mpr c39; simp only [Option.some.injEq, Prod.mk.injEq] at H; obtain ⟨rfl, rfl⟩ := H
                    go_wp2
                    go_ret2
                    exact ⟨by first | rfl | (simp; done) | (simp [*]; done), by repeat (first | exact Drawn0.refl _ | apply Drawn0.step)⟩
                 ·
                  rw [if_neg c37] at H
                  have c37b0 : decide (0 < x3_8) = false := decide_eq_false c37; clear c37
                  by_cases c40 : a1 = 32
                  ·
                   rw [if_pos c40] at H
                   have c40b0 : (a1 == 32) = true := beq_iff_eq.mpr c40; have c40b1 : (a1 != 32) = false := bne_eq_false_iff_eq.mpr c40; clear c40; simp only [Option.some.injEq, Prod.mk.injEq] at H; obtain ⟨rfl, rfl⟩ := H
                   go_wp2
                   go_ret2
                   exact ⟨by first | rfl | (simp; done) | (simp [*]; done), by repeat (first | exact Drawn0.refl _ | apply Drawn0.step)⟩
                  ·
                   rw [if_neg c40] at H
                   have c40b0 : (a1 == 32) = false := beq_eq_false_iff_ne.mpr c40; have c40b1 : (a1 != 32) = true := bne_iff_ne.mpr c40; simp only [Option.some.injEq, Prod.mk.injEq] at H; obtain ⟨rfl, rfl⟩ := H
                   go_wp2
                   go_ret2
                   exact ⟨by first | rfl | (simp; done) | (simp [*]; done), by repeat (first | exact Drawn0.refl _ | apply Drawn0.step)⟩
                ·
                 rw [if_neg c36] at H
                 have c36b0 : ((wrap64 (Int.tdiv a0 16)) == 9) = false := beq_eq_false_iff_ne.mpr c36; have c36b1 : ((wrap64 (Int.tdiv a0 16)) != 9) = true := bne_iff_ne.mpr c36
                 by_cases c41 : (wrap64 (Int.tdiv a0 16)) = 10
                 ·
                  rw [if_pos c41] at H
                  have c41b0 : ((wrap64 (Int.tdiv a0 16)) == 10) = true := beq_iff_eq.mpr c41; have c41b1 : ((wrap64 (Int.tdiv a0 16)) != 10) = false := bne_eq_false_iff_eq.mpr c41; clear c41
                  by_cases c42 : a1 = 32
                  ·
                   rw [if_pos c42] at H
                   have c42b0 : (a1 == 32) = true := beq_iff_eq.mpr c42; have c42b1 : (a1 != 32) = false := bne_eq_false_iff_eq.mpr c42; clear c42; simp only [Option.some.injEq, Prod.mk.injEq] at H; obtain ⟨rfl, rfl⟩ := H
                   go_wp2
                   go_ret2
                   exact ⟨by first | rfl | (simp; done) | (simp [*]; done), by repeat (first | exact Drawn0.refl _ | apply Drawn0.step)⟩
                  ·
                   rw [if_neg c42] at H
                   have c42b0 : (a1 == 32) = false := beq_eq_false_iff_ne.mpr c42; have c42b1 : (a1 != 32) = true := bne_iff_ne.mpr c42; simp only [Option.some.injEq, Prod.mk.injEq] at H; obtain ⟨rfl, rfl⟩ := H
                   go_wp2
                   go_ret2
                   exact ⟨by first | rfl | (simp; done) | (simp [*]; done), by repeat (first | exact Drawn0.refl _ | apply Drawn0.step)⟩
                 ·
                  rw [if_neg c41] at H
                  have c41b0 : ((wrap64 (Int.tdiv a0 16)) == 10) = false := beq_eq_false_iff_ne.mpr c41; have c41b1 : ((wrap64 (Int.tdiv a0 16)) != 10) = true := bne_iff_ne.mpr c41
                  by_cases c43 : (wrap64 (Int.tdiv a0 16)) = 11
                  ·
                   rw [if_pos c43] at H
                   have c43b0 : ((wrap64 (Int.tdiv a0 16)) == 11) = true := beq_iff_eq.mpr c43; have c43b1 : ((wrap64 (Int.tdiv a0 16)) != 11) = false := bne_eq_false_iff_eq.mpr c43; clear c43
                   by_cases c44 : a1 = 32
                   ·
                    rw [if_pos c44] at H
                    have c44b0 : (a1 == 32) = true := beq_iff_eq.mpr c44; have c44b1 : (a1 != 32) = false := bne_eq_false_iff_eq.mpr c44; clear c44; simp only [Option.some.injEq, Prod.mk.injEq] at H; obtain ⟨rfl, rfl⟩ := H
                    go_wp2
                    go_ret2
                    exact ⟨by first | rfl | (simp; done) | (simp [*]; done), by repeat (first | exact Drawn0.refl _ | apply Drawn0.step)⟩
                   ·
                    rw [if_neg c44] at H
                    have c44b0 : (a1 == 32) = false := beq_eq_false_iff_ne.mpr c44; have c44b1 : (a1 != 32) = true := bne_iff_ne.mpr c44; simp only [Option.some.injEq, Prod.mk.injEq] at H; obtain ⟨rfl, rfl⟩ := H
                    go_wp2
                    go_ret2
                    exact ⟨by first | rfl | (simp; done) | (simp [*]; done), by repeat (first | exact Drawn0.refl _ | apply Drawn0.step)⟩
                  ·
                   rw [if_neg c43] at H
                   have c43b0 : ((wrap64 (Int.tdiv a0 16)) == 11) = false := beq_eq_false_iff_ne.mpr c43; have c43b1 : ((wrap64 (Int.tdiv a0 16)) != 11) = true := bne_iff_ne.mpr c43
                   by_cases c45 : (wrap64 (Int.tdiv a0 16)) = 12
                   ·
                    rw [if_pos c45] at H
                    have c45b0 : ((wrap64 (Int.tdiv a0 16)) == 12) = true := beq_iff_eq.mpr c45; have c45b1 : ((wrap64 (Int.tdiv a0 16)) != 12) = false := bne_eq_false_iff_eq.mpr c45; clear c45; replace H := Option.bind_eq_some_iff.mp H; obtain ⟨t103, A460, H⟩ := H
                    replace H : (if t103 = 0 then (none) else ((posternref05_pow.f kj8 (IntKind.u64.wrap (wrap64 (a1 - 1)))).bind fun t104 => (if x2_8 ≥ t104 then (posternref05_Do.l0 kj8 a1 (Int.tmod x3_8 (IntKind.u64.wrap (a1))) (IntKind.u64.wrap (Int.tdiv x2_8 t103)) 0) else (if a1 = 32 then (some (Int.tmod (IntKind.u64.wrap (Int.tdiv x2_8 t103)) 4294967296, true)) else (some (IntKind.u64.wrap (Int.tdiv x2_8 t103), true)))))) = some (r1, r2) := H
                    have A46 := Aside0.mk A460; clear A460
                    by_cases c47 : t103 = 0
                    ·
                     rw [if_pos c47] at H
                     exact absurd H (by simp)
                    ·
                     rw [if_neg c47] at H
                     have c47b0 : (t103 == 0) = false := beq_eq_false_iff_ne.mpr c47; have c47b1 : (t103 != 0) = true := bne_iff_ne.mpr c47; replace H := Option.bind_eq_some_iff.mp H; obtain ⟨t104, A480, H⟩ := H
                     replace H : (if x2_8 ≥ t104 then (posternref05_Do.l0 kj8 a1 (Int.tmod x3_8 (IntKind.u64.wrap (a1))) (IntKind.u64.wrap (Int.tdiv x2_8 t103)) 0) else (if a1 = 32 then (some (Int.tmod (IntKind.u64.wrap (Int.tdiv x2_8 t103)) 4294967296, true)) else (some (IntKind.u64.wrap (Int.tdiv x2_8 t103), true)))) = some (r1, r2) := H
                     have A48 := Aside0.mk A480; clear A480
                     by_cases c49 : x2_8 ≥ t104
                     ·
                      rw [if_pos c49] at H
                      have c49b0 : decide (t104 ≤ x2_8) = true := decide_eq_true c49; clear c49
                      have H' := Aside0.mk H
                      clear H
                      go_wp2_with (first | ((with_reducible refine gate_callee (f := 46) rfl ?_); refine goesL_ (some 115) rfl rfl Try.func46 (by kernel_rfl) rfl #[.int .u64 (Int.tmod x3_8 (IntKind.u64.wrap (a1)))] rfl (by (try simp only [List.map_toArray, List.map_cons, List.map_nil]); first | done | rfl | (simp only [List.length_drop, List.length_take]; rfl)) ?_; (with_reducible refine (posternref05_pow.calls kj8 (Int.tmod x3_8 (IntKind.u64.wrap (a1))) t103 _ A46.out).mono ?_); rintro e w' ⟨rfl, ⟨nd, rfl⟩⟩; refine ⟨_, rfl, ?_⟩) | ((with_reducible refine gate_callee (f := 46) rfl ?_); refine goesL_ (some 121) rfl rfl Try.func46 (by kernel_rfl) rfl #[.int .u64 (IntKind.u64.wrap (wrap64 (a1 - 1)))] rfl (by (try simp only [List.map_toArray, List.map_cons, List.map_nil]); first | done | rfl | (simp only [List.length_drop, List.length_take]; rfl)) ?_; (with_reducible refine (posternref05_pow.calls kj8 (IntKind.u64.wrap (wrap64 (a1 - 1))) t104 _ A48.out).mono ?_); rintro e w' ⟨rfl, ⟨nd, rfl⟩⟩; refine ⟨_, rfl, ?_⟩))
                      go_loopg [11, 12] kj8 (fun kq v11 v12 w' => ∃ (x11_3 : Int) (x12_3 : Int), v11 = .int .u64 x11_3 ∧ v12 = .int .u64 x12_3 ∧ Aside0 (posternref05_Do.l0 kq a1 (Int.tmod x3_8 (IntKind.u64.wrap (a1))) x11_3 x12_3 = some (r1, r2)) ∧ Aside0 (kq ≤ kj8) ∧ Drawn0 w w')
                      case atStart => exact ⟨(IntKind.u64.wrap (Int.tdiv x2_8 t103)), (0), (by first | rfl | (simp; done) | (simp [*]; done)), (by first | rfl | (simp; done) | (simp [*]; done)), H', ⟨Nat.le_refl _⟩, by repeat (first | exact Drawn0.refl _ | apply Drawn0.step)⟩
                      case round =>
                       clear H'
                       try clear c1
                       try clear c2
                       try clear p2
                       try clear c3
                       try clear c4
                       try clear c6
                       try clear c6b0
                       try clear c6b1
                       try clear p6
                       try clear c7
                       try clear c7b0
                       try clear c8
                       try clear c10
                       try clear c10b0
                       try clear c10b1
                       try clear c11
                       try clear c11b0
                       try clear c11b1
                       try clear c12
                       try clear c12b0
                       try clear c12b1
                       try clear c13
                       try clear c13b0
                       try clear c13b1
                       try clear c14
                       try clear c14b0
                       try clear c14b1
                       try clear c15
                       try clear c15b0
                       try clear c15b1
                       try clear c16
                       try clear c16b0
                       try clear c16b1
                       try clear c17
                       try clear c17b0
                       try clear c17b1
                       try clear c18
                       try clear c18b0
                       try clear c18b1
                       try clear c19
                       try clear c19b0
                       try clear c20
                       try clear c20b0
                       try clear c20b1
                       try clear c21
                       try clear c21b0
                       try clear c21b1
                       try clear c22
                       try clear c22b0
                       try clear c22b1
                       try clear c23
                       try clear c23b0
                       try clear c23b1
                       try clear c24
                       try clear c24b0
                       try clear c24b1
                       try clear c25
                       try clear c25b0
                       try clear c25b1
                       try clear c26
                       try clear c26b0
                       try clear c26b1
                       try clear c27
                       try clear c27b0
                       try clear c27b1
                       try clear c29
                       try clear c29b0
                       try clear c29b1
                       try clear c30
                       try clear c30b0
                       try clear c30b1
                       try clear c32
                       try clear c32b0
                       try clear c32b1
                       try clear c33
                       try clear c33b0
                       try clear c33b1
                       try clear c34
                       try clear c34b0
                       try clear c34b1
                       try clear c35
                       try clear c35b0
                       try clear c35b1
                       try clear c36
                       try clear c36b0
                       try clear c36b1
                       try clear c37
                       try clear c37b0
                       try clear c38
                       try clear c38b0
                       try clear c38b1
                       try clear c39
                       try clear c39b0
                       try clear c39b1
                       try clear c40
                       try clear c40b0
                       try clear c40b1
                       try clear c41
                       try clear c41b0
                       try clear c41b1
                       try clear c42
                       try clear c42b0
                       try clear c42b1
                       try clear c43
                       try clear c43b0
                       try clear c43b1
                       try clear c44
                       try clear c44b0
                       try clear c44b1
                       try clear c45
                       try clear c45b0
                       try clear c45b1
                       try clear c46
                       try clear c47
                       try clear c47b0
                       try clear c47b1
                       try clear c49
                       try clear c49b0
                       try clear p2
                       obtain ⟨x11_3, x12_3, rfl, rfl, HA, HK3, ⟨m3, rfl⟩⟩ := hrel
                       cases gk with
                       | zero => exact absurd HA.out (by simp [posternref05_Do.l0])
                       | succ k3 =>
                        have H := HA.out
                        clear HA
                        simp only [posternref05_Do.l0] at H
                        by_cases c50 : x12_3 < (Int.tmod x3_8 (IntKind.u64.wrap (a1)))
                        ·
                         rw [if_pos c50] at H
                         have c50b0 : decide (x12_3 < (Int.tmod x3_8 (IntKind.u64.wrap (a1)))) = true := decide_eq_true c50; clear c50; replace H := Option.bind_eq_some_iff.mp H; obtain ⟨t105, A510, H⟩ := H
                         replace H : (posternref05_Do.l0 k3 a1 (Int.tmod x3_8 (IntKind.u64.wrap (a1))) (IntKind.u64.wrap (x11_3 + t105)) (IntKind.u64.wrap (x12_3 + 1))) = some (r1, r2) := H
                         have A51 := Aside0.mk A510; clear A510
                         have H' := Aside0.mk H
                         clear H
                         go_wp2_with (first | ((with_reducible refine gate_callee (f := 46) rfl ?_); refine goesL_ (some 134) rfl rfl Try.func46 (by kernel_rfl) rfl #[.int .u64 (IntKind.u64.wrap ((IntKind.u64.wrap (wrap64 (a1 - 1))) - x12_3))] rfl (by (try simp only [List.map_toArray, List.map_cons, List.map_nil]); first | done | rfl | (simp only [List.length_drop, List.length_take]; rfl)) ?_; (with_reducible refine (posternref05_pow.calls k3 (IntKind.u64.wrap ((IntKind.u64.wrap (wrap64 (a1 - 1))) - x12_3)) t105 _ A51.out).mono ?_); rintro e w' ⟨rfl, ⟨nd, rfl⟩⟩; refine ⟨_, rfl, ?_⟩))
                         go_roundg k3
                         case measure => have := HJ4.out; have := HJ8.out; have := HK3.out; omega
                         case rel => exact ⟨(IntKind.u64.wrap (x11_3 + t105)), (IntKind.u64.wrap (x12_3 + 1)), (by first | rfl | (simp; done) | (simp [*]; done)), (by first | rfl | (simp; done) | (simp [*]; done)), H', ⟨by have := HJ4.out; have := HJ8.out; have := HK3.out; omega⟩, by repeat (first | exact Drawn0.refl _ | apply Drawn0.step)⟩
                        ·
                         rw [if_neg c50] at H
                         have c50b0 : decide (x12_3 < (Int.tmod x3_8 (IntKind.u64.wrap (a1)))) = false := decide_eq_false c50; clear c50
                         by_cases c52 : a1 = 32
                         ·
                          rw [if_pos c52] at H
                          have c52b0 : (a1 == 32) = true := beq_iff_eq.mpr c52; have c52b1 : (a1 != 32) = false := bne_eq_false_iff_eq.mpr c52; clear c52; simp only [Option.some.injEq, Prod.mk.injEq] at H; obtain ⟨rfl, rfl⟩ := H
                          go_wp2
                          go_ret2
                          exact ⟨by first | rfl | (simp; done) | (simp [*]; done), by repeat (first | exact Drawn0.refl _ | apply Drawn0.step)⟩
                         ·
                          rw [if_neg c52] at H
                          have c52b0 : (a1 == 32) = false := beq_eq_false_iff_ne.mpr c52; have c52b1 : (a1 != 32) = true := bne_iff_ne.mpr c52; simp only [Option.some.injEq, Prod.mk.injEq] at H; obtain ⟨rfl, rfl⟩ := H
                          go_wp2
                          go_ret2
                          exact ⟨by first | rfl | (simp; done) | (simp [*]; done), by repeat (first | exact Drawn0.refl _ | apply Drawn0.step)⟩
                     ·
                      rw [if_neg c49] at H
                      have c49b0 : decide (t104 ≤ x2_8) = false := decide_eq_false c49; clear c49
                      by_cases c53 : a1 = 32
                      ·
                       rw [if_pos c53] at H
                       have c53b0 : (a1 == 32) = true := beq_iff_eq.mpr c53; have c53b1 : (a1 != 32) = false := bne_eq_false_iff_eq.mpr c53; clear c53; simp only [Option.some.injEq, Prod.mk.injEq] at H; obtain ⟨rfl, rfl⟩ := H
                       go_wp2_with (first | ((with_reducible refine gate_callee (f := 46) rfl ?_); refine goesL_ (some 115) rfl rfl Try.func46 (by kernel_rfl) rfl #[.int .u64 (Int.tmod x3_8 (IntKind.u64.wrap (a1)))] rfl (by (try simp only [List.map_toArray, List.map_cons, List.map_nil]); first | done | rfl | (simp only [List.length_drop, List.length_take]; rfl)) ?_; (with_reducible refine (posternref05_pow.calls kj8 (Int.tmod x3_8 (IntKind.u64.wrap (a1))) t103 _ A46.out).mono ?_); rintro e w' ⟨rfl, ⟨nd, rfl⟩⟩; refine ⟨_, rfl, ?_⟩) | ((with_reducible refine gate_callee (f := 46) rfl ?_); refine goesL_ (some 121) rfl rfl Try.func46 (by kernel_rfl) rfl #[.int .u64 (IntKind.u64.wrap (wrap64 (a1 - 1)))] rfl (by (try simp only [List.map_toArray, List.map_cons, List.map_nil]); first | done | rfl | (simp only [List.length_drop, List.length_take]; rfl)) ?_; (with_reducible refine (posternref05_pow.calls kj8 (IntKind.u64.wrap (wrap64 (a1 - 1))) t104 _ A48.out).mono ?_); rintro e w' ⟨rfl, ⟨nd, rfl⟩⟩; refine ⟨_, rfl, ?_⟩))
                       go_ret2
                       exact ⟨by first | rfl | (simp; done) | (simp [*]; done), by repeat (first | exact Drawn0.refl _ | apply Drawn0.step)⟩
                      ·
                       rw [if_neg c53] at H
                       have c53b0 : (a1 == 32) = false := beq_eq_false_iff_ne.mpr c53; have c53b1 : (a1 != 32) = true := bne_iff_ne.mpr c53; simp only [Option.some.injEq, Prod.mk.injEq] at H; obtain ⟨rfl, rfl⟩ := H
                       go_wp2_with (first | ((with_reducible refine gate_callee (f := 46) rfl ?_); refine goesL_ (some 115) rfl rfl Try.func46 (by kernel_rfl) rfl #[.int .u64 (Int.tmod x3_8 (IntKind.u64.wrap (a1)))] rfl (by (try simp only [List.map_toArray, List.map_cons, List.map_nil]); first | done | rfl | (simp only [List.length_drop, List.length_take]; rfl)) ?_; (with_reducible refine (posternref05_pow.calls kj8 (Int.tmod x3_8 (IntKind.u64.wrap (a1))) t103 _ A46.out).mono ?_); rintro e w' ⟨rfl, ⟨nd, rfl⟩⟩; refine ⟨_, rfl, ?_⟩) | ((with_reducible refine gate_callee (f := 46) rfl ?_); refine goesL_ (some 121) rfl rfl Try.func46 (by kernel_rfl) rfl #[.int .u64 (IntKind.u64.wrap (wrap64 (a1 - 1)))] rfl (by (try simp only [List.map_toArray, List.map_cons, List.map_nil]); first | done | rfl | (simp only [List.length_drop, List.length_take]; rfl)) ?_; (with_reducible refine (posternref05_pow.calls kj8 (IntKind.u64.wrap (wrap64 (a1 - 1))) t104 _ A48.out).mono ?_); rintro e w' ⟨rfl, ⟨nd, rfl⟩⟩; refine ⟨_, rfl, ?_⟩))
                       go_ret2
                       exact ⟨by first | rfl | (simp; done) | (simp [*]; done), by repeat (first | exact Drawn0.refl _ | apply Drawn0.step)⟩
                   ·
                    rw [if_neg c45] at H
                    have c45b0 : ((wrap64 (Int.tdiv a0 16)) == 12) = false := beq_eq_false_iff_ne.mpr c45; have c45b1 : ((wrap64 (Int.tdiv a0 16)) != 12) = true := bne_iff_ne.mpr c45
                    by_cases c54 : a1 = 32
                    ·
                     rw [if_pos c54] at H
                     have c54b0 : (a1 == 32) = true := beq_iff_eq.mpr c54; have c54b1 : (a1 != 32) = false := bne_eq_false_iff_eq.mpr c54; clear c54; simp only [Option.some.injEq, Prod.mk.injEq] at H; obtain ⟨rfl, rfl⟩ := H
                     go_wp2
                     go_ret2
                     exact ⟨by first | rfl | (simp; done) | (simp [*]; done), by repeat (first | exact Drawn0.refl _ | apply Drawn0.step)⟩
                    ·
                     rw [if_neg c54] at H
                     have c54b0 : (a1 == 32) = false := beq_eq_false_iff_ne.mpr c54; have c54b1 : (a1 != 32) = true := bne_iff_ne.mpr c54; simp only [Option.some.injEq, Prod.mk.injEq] at H; obtain ⟨rfl, rfl⟩ := H
                     go_wp2
                     go_ret2
                     exact ⟨by first | rfl | (simp; done) | (simp [*]; done), by repeat (first | exact Drawn0.refl _ | apply Drawn0.step)⟩

/-! ### span_Const: function 37 -/
def span_Const.f (a0 : Int) : Option (Int × Int) := some (a0, a0)
set_option maxHeartbeats 8000000 in
set_option maxRecDepth 100000 in
theorem span_Const.calls (a0 : Int) (r1 : Int) (r2 : Int) (w : World) (h : span_Const.f a0 = some (r1, r2)) :
  Calls Try.prog 37 #[.int .u64 a0] w fun e w' => e = .returned (.agg #[.int .u64 r1, .int .u64 r2]) ∧ Below w.heap.size w w' := by
 have hu58 := Try.underlying58
 have HB := Aside0.mk (Below.refl w.heap.size w)
 have H : (some (a0, a0)) = some (r1, r2) := h
 clear h; simp only [Option.some.injEq, Prod.mk.injEq] at H; obtain ⟨rfl, rfl⟩ := H
 go_enter Try.func37, Try.ntmps37
 go_wp2_with (first | ((with_reducible refine gate_dst (N := 2) rfl ?_); refine box_event ?hg (N := 2) ?hd (cs := #[.int .u64 0, .int .u64 0]) (t := 58) ?hr ?_; (case hd => rfl); (case hg => rfl); (case hr => first | (go_simp; done) | (go_simp; rfl)); intro gb106 hg w2 hbox hb; have n0_ := Aside0.mk (below_step (by repeat (first | (with_reducible first | exact HB.out | apply lA | apply lN | apply lD) | exact HB.out)) hb); have n1_ := Aside0.mk (hbox); have n2_ := Aside0.mk ((by rw [hg]; exact (below_size (by repeat (first | (with_reducible first | exact HB.out | apply lA | apply lN | apply lD) | exact HB.out))) : w.heap.size ≤ gb106)); have n3_ := n2_; clear HB; have HB := n0_; have BK106 := n1_; have GW106 := n2_; have GE106 := n3_; clear n0_ n1_ n2_ n3_; clear hb hbox hg; have hcz3_0 : w2.cell? ⟨gb106, 0, none⟩ = some (.int .u64 0) := (blk_cell BK106.out 0).trans rfl; have hcz3_1 : w2.cell? ⟨gb106, 1, none⟩ = some (.int .u64 0) := (blk_cell BK106.out 1).trans rfl; have hfz3_0 := blk_frozen BK106.out 0; have hfz3_1 := blk_frozen BK106.out 1))
 refine bodyPost_ret (results_cell_row rfl _ _ gb106 58 #[.int .u64 a0, .int .u64 a0] (0, 0) _ rfl (by (with_reducible repeat (first | apply bN | apply bD | apply bA)); refine blk_put (cs := #[.int .u64 a0, .int .u64 0]) ?_ 1 _ rfl; (with_reducible repeat (first | apply bN | apply bD | apply bA)); refine blk_put (cs := #[.int .u64 0, .int .u64 0]) ?_ 0 _ rfl; (with_reducible repeat (first | apply bN | apply bD | apply bA)); exact BK106.out) Try.underlying58 rfl (by kernel_rfl)) rfl ?_
 exact ⟨by first | rfl | (simp [errW_none, errW_some] <;> rfl) | (simp [*, errW_none, errW_some] <;> rfl), by repeat (first | (with_reducible first | exact HB.out | apply lA | apply lN | apply lD | refine lS ?_ ‹_›) | exact HB.out)⟩

end Go.Proofs.Ytladlljnpmpdpaa.PSpanSound
