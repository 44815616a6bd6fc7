-- Written by a program of this session (a variant of the print), for this claim. Lean checks it.
import Derived.Test.YtladlljnpmpdpaaPSpanEndsx0
import Derived.Test.YtladlljnpmpdpaaPSpanEndsx10
namespace Go.Proofs.Ytladlljnpmpdpaa.PSpanEnds
open Go.RowKit Go.Proofs.YtladlljnpmpdpaaW.PrintWords Go.Proofs.YtladlljnpmpdpaaW.PrintLast Go.Proofs.YtladlljnpmpdpaaW.PrintMore
attribute [local go_sem] max2_int min2_int max_two min_two max_three min_three max_four min_four   -- for this text's walks alone
attribute [local go_sem high] Go.Proofs.Ytladlljnpmpdpaa.NotLaw.not_u64 Go.Proofs.Ytladlljnpmpdpaa.NotLaw.not_u32 Go.Proofs.Ytladlljnpmpdpaa.NotLaw.not_u16 Go.Proofs.Ytladlljnpmpdpaa.NotLaw.not_u8
set_option linter.unusedVariables false
set_option linter.unusedSimpArgs false

/-! ### posternref05_Holds: function 34 -/
mutual
def posternref05_Holds.j0 : Nat → Int → Int → Int → Int → Option (Bool × Bool)
 | 0, _, _, _, _ => none
 | k + 1, x0, x1, x2, x3 => (posternref05_pow.f k (IntKind.u64.wrap (wrap64 (x1 - 1)))).bind fun t259 => (if x1 = 32 then (posternref05_Holds.j1 k x0 x2 x3 (Int.tmod (IntKind.u64.wrap (x2 + t259)) 4294967296) (Int.tmod (IntKind.u64.wrap (x3 + t259)) 4294967296)) else (posternref05_Holds.j1 k x0 x2 x3 (IntKind.u64.wrap (x2 + t259)) (IntKind.u64.wrap (x3 + t259))))
def posternref05_Holds.j1 : Nat → Int → Int → Int → Int → Int → Option (Bool × Bool)
 | 0, _, _, _, _, _ => none
 | k + 1, x0, x2, x3, x11, x12 => if x0 = 16 then (some ((x2 == x3), true)) else (if x0 = 80 then (some ((x2 != x3), true)) else (if x0 = 32 then (some (decide (x2 > x3), true)) else (if x0 = 48 then (some (decide (x2 ≥ x3), true)) else (if x0 = 160 then (some (decide (x2 < x3), true)) else (if x0 = 176 then (some (decide (x2 ≤ x3), true)) else (if x0 = 96 then (some (decide (x11 > x12), true)) else (if x0 = 112 then (some (decide (x11 ≥ x12), true)) else (if x0 = 192 then (some (decide (x11 < x12), true)) else (if x0 = 208 then (some (decide (x11 ≤ x12), true)) else (if x0 = 64 then (some (decide ((Go.bits .and .u64 x2 x3) > 0), true)) else (some (false, false))))))))))))
end
def posternref05_Holds.f (k : Nat) (a0 : Int) (a1 : Int) (a2 : Int) (a3 : Int) : Option (Bool × Bool) := if a1 = 32 then (posternref05_Holds.j0 k a0 a1 (Int.tmod a2 4294967296) (Int.tmod a3 4294967296)) else (posternref05_Holds.j0 k a0 a1 a2 a3)
theorem posternref05_Holds.mono_l : ∀ k, (∀ y0 y1 y2 y3, LeO (posternref05_Holds.j0 k y0 y1 y2 y3) (posternref05_Holds.j0 (k + 1) y0 y1 y2 y3)) ∧ (∀ y0 y1 y2 y3 y4, LeO (posternref05_Holds.j1 k y0 y1 y2 y3 y4) (posternref05_Holds.j1 (k + 1) y0 y1 y2 y3 y4))
 | 0 => ⟨fun _ _ _ _ r h => by simp [posternref05_Holds.j0] at h, fun _ _ _ _ _ r h => by simp [posternref05_Holds.j1] at h⟩
 | k + 1 => by
  obtain ⟨ih0, ih1⟩ := posternref05_Holds.mono_l k
  refine ⟨?_, ?_⟩
  ·
   intro y0 y1 y2 y3
   unfold posternref05_Holds.j0
   repeat' first
   | (with_reducible exact ih0 _ _ _ _)
   | (with_reducible exact ih1 _ _ _ _ _)
   | (with_reducible exact posternref05_pow.mono _ _)
   | (with_reducible exact LeO.refl _)
   | (with_reducible exact LeO.none _)
   | (with_reducible refine LeO.ite ?_ ?_)
   | (with_reducible refine LeO.bind ?_ (fun _ => ?_))
   | exact ih0 _ _ _ _
   | exact ih1 _ _ _ _ _
   | exact posternref05_pow.mono _ _
   | exact LeO.none _
   | refine LeO.ite ?_ ?_
   | refine LeO.bind ?_ (fun _ => ?_)
  ·
   intro y0 y1 y2 y3 y4
   unfold posternref05_Holds.j1
   repeat' first
   | (with_reducible exact ih0 _ _ _ _)
   | (with_reducible exact ih1 _ _ _ _ _)
   | (with_reducible exact posternref05_pow.mono _ _)
   | (with_reducible exact LeO.refl _)
   | (with_reducible exact LeO.none _)
   | (with_reducible refine LeO.ite ?_ ?_)
   | (with_reducible refine LeO.bind ?_ (fun _ => ?_))
   | exact ih0 _ _ _ _
   | exact ih1 _ _ _ _ _
   | exact posternref05_pow.mono _ _
   | exact LeO.none _
   | refine LeO.ite ?_ ?_
   | refine LeO.bind ?_ (fun _ => ?_)
theorem posternref05_Holds.mono : ∀ a0 a1 a2 a3 k, LeO (posternref05_Holds.f k a0 a1 a2 a3) (posternref05_Holds.f (k + 1) a0 a1 a2 a3) := by
 intro a0 a1 a2 a3 k
 obtain ⟨ih0, ih1⟩ := posternref05_Holds.mono_l k
 unfold posternref05_Holds.f
 repeat' first
   | (with_reducible exact ih0 _ _ _ _)
   | (with_reducible exact ih1 _ _ _ _ _)
   | (with_reducible exact posternref05_pow.mono _ _)
   | (with_reducible exact LeO.refl _)
   | (with_reducible exact LeO.none _)
   | (with_reducible refine LeO.ite ?_ ?_)
   | (with_reducible refine LeO.bind ?_ (fun _ => ?_))
   | exact ih0 _ _ _ _
   | exact ih1 _ _ _ _ _
   | exact posternref05_pow.mono _ _
   | exact LeO.none _
   | refine LeO.ite ?_ ?_
   | refine LeO.bind ?_ (fun _ => ?_)
set_option maxHeartbeats 8000000 in
set_option maxRecDepth 100000 in
theorem posternref05_Holds.calls (k : Nat) (a0 : Int) (a1 : Int) (a2 : Int) (a3 : Int) (r1 : Bool) (r2 : Bool) (w : World) (h : posternref05_Holds.f k a0 a1 a2 a3 = some (r1, r2)) :
  Calls Try.prog 34 #[.int .i64 a0, .int .i64 a1, .int .u64 a2, .int .u64 a3] w fun e w' => e = .returned (.tuple #[.bool r1, .bool r2]) ∧ Drawn0 w w' := by
 have H : (if a1 = 32 then (posternref05_Holds.j0 k a0 a1 (Int.tmod a2 4294967296) (Int.tmod a3 4294967296)) else (posternref05_Holds.j0 k a0 a1 a2 a3)) = some (r1, r2) := h
 clear h
 have HC5 := Aside0.mk H
 clear H
 go_enter Try.func34, Try.ntmps34
 go_upto_if 14 with (fail)
 go_cut [2, 3] (fun v2 v3 wc => ∃ (kq : Nat) (x2_4 : Int) (x3_4 : Int), v2 = .int .u64 x2_4 ∧ v3 = .int .u64 x3_4 ∧ Aside0 (posternref05_Holds.j0 kq a0 a1 x2_4 x3_4 = some (r1, r2)) ∧ Aside0 (kq ≤ k) ∧ Drawn0 w wc)
 case first =>
  have H := HC5.out
  clear HC5
  by_cases c6 : a1 = 32
  ·
   rw [if_pos c6] at H
   have c6b0 : (a1 == 32) = true := beq_iff_eq.mpr c6; have c6b1 : (a1 != 32) = false := bne_eq_false_iff_eq.mpr c6; clear c6
   (first | rw [c6b0] | (simp only [i64_w, i32_w]; rw [c6b0]) | skip)
   have H' := Aside0.mk H
   clear H
   go_wp2
   go_meet
   case rel => exact ⟨_, (Int.tmod a2 4294967296), (Int.tmod a3 4294967296), (by first | rfl | (simp; done) | (simp [*]; done)), (by first | rfl | (simp; done) | (simp [*]; done)), H', ⟨by first | omega | exact Nat.le_refl _⟩, by repeat (first | exact Drawn0.refl _ | apply Drawn0.step)⟩
  ·
   rw [if_neg c6] at H
   have c6b0 : (a1 == 32) = false := beq_eq_false_iff_ne.mpr c6; have c6b1 : (a1 != 32) = true := bne_iff_ne.mpr c6
   (first | rw [c6b0] | (simp only [i64_w, i32_w]; rw [c6b0]) | skip)
   have H' := Aside0.mk H
   clear H
   go_wp2
   go_meet
   case rel => exact ⟨_, (a2), (a3), (by first | rfl | (simp; done) | (simp [*]; done)), (by first | rfl | (simp; done) | (simp [*]; done)), H', ⟨by first | omega | exact Nat.le_refl _⟩, by repeat (first | exact Drawn0.refl _ | apply Drawn0.step)⟩
 case rest =>
  clear HC5
  try clear p2
  try clear c3
  try clear c6
  try clear c6b0
  try clear c6b1
  obtain ⟨kq, x2_4, x3_4, rfl, rfl, HA, HJ4, ⟨mc4, rfl⟩⟩ := hcut
  cases kq with
  | zero => exact absurd HA.out (by simp [posternref05_Holds.j0])
  | succ kj4 =>
   have H := HA.out
   clear HA
   simp only [posternref05_Holds.j0] at H
   replace H := Option.bind_eq_some_iff.mp H; obtain ⟨t259, A70, H⟩ := H
   replace H : (if a1 = 32 then (posternref05_Holds.j1 kj4 a0 x2_4 x3_4 (Int.tmod (IntKind.u64.wrap (x2_4 + t259)) 4294967296) (Int.tmod (IntKind.u64.wrap (x3_4 + t259)) 4294967296)) else (posternref05_Holds.j1 kj4 a0 x2_4 x3_4 (IntKind.u64.wrap (x2_4 + t259)) (IntKind.u64.wrap (x3_4 + t259)))) = some (r1, r2) := H
   have A7 := Aside0.mk A70; clear A70
   have HC8 := Aside0.mk H
   clear H
   go_upto_if 30 with (first | ((with_reducible refine gate_callee (f := 46) rfl ?_); refine goesL_ (some 22) rfl rfl Try.func46 (by kernel_rfl) rfl #[.int .u64 (IntKind.u64.wrap (wrap64 (a1 - 1)))] rfl (by (try simp only [List.map_toArray, List.map_cons, List.map_nil]); first | done | rfl | (simp only [List.length_drop, List.length_take]; rfl)) ?_; (with_reducible refine (posternref05_pow.calls kj4 (IntKind.u64.wrap (wrap64 (a1 - 1))) t259 _ A7.out).mono ?_); rintro e w' ⟨rfl, ⟨nd, rfl⟩⟩; refine ⟨_, rfl, ?_⟩))
   (try simp only [Act.put, List.setIfInBounds_toArray, List.set_cons_zero, List.set_cons_succ])
   go_cut [11, 12] (fun v11 v12 wc => ∃ (kq : Nat) (x11_7 : Int) (x12_7 : Int), v11 = .int .u64 x11_7 ∧ v12 = .int .u64 x12_7 ∧ Aside0 (posternref05_Holds.j1 kq a0 x2_4 x3_4 x11_7 x12_7 = some (r1, r2)) ∧ Aside0 (kq ≤ kj4) ∧ Drawn0 w wc)
   case first =>
    have H := HC8.out
    clear HC8
    by_cases c9 : a1 = 32
    ·
     rw [if_pos c9] at H
     have c9b0 : (a1 == 32) = true := beq_iff_eq.mpr c9; have c9b1 : (a1 != 32) = false := bne_eq_false_iff_eq.mpr c9; clear c9
     (first | rw [c9b0] | (simp only [i64_w, i32_w]; rw [c9b0]) | skip)
     have H' := Aside0.mk H
     clear H
     go_wp2
     go_meet
     case rel => exact ⟨_, (Int.tmod (IntKind.u64.wrap (x2_4 + t259)) 4294967296), (Int.tmod (IntKind.u64.wrap (x3_4 + t259)) 4294967296), (by first | rfl | (simp; done) | (simp [*]; done)), (by first | rfl | (simp; done) | (simp [*]; done)), H', ⟨by have := HJ4.out; first | omega | exact Nat.le_refl _⟩, by repeat (first | exact Drawn0.refl _ | apply Drawn0.step)⟩
    ·
     rw [if_neg c9] at H
     have c9b0 : (a1 == 32) = false := beq_eq_false_iff_ne.mpr c9; have c9b1 : (a1 != 32) = true := bne_iff_ne.mpr c9
     (first | rw [c9b0] | (simp only [i64_w, i32_w]; rw [c9b0]) | skip)
     have H' := Aside0.mk H
     clear H
     go_wp2
     go_meet
     case rel => exact ⟨_, (IntKind.u64.wrap (x2_4 + t259)), (IntKind.u64.wrap (x3_4 + t259)), (by first | rfl | (simp; done) | (simp [*]; done)), (by first | rfl | (simp; done) | (simp [*]; done)), H', ⟨by have := HJ4.out; first | omega | exact Nat.le_refl _⟩, by repeat (first | exact Drawn0.refl _ | apply Drawn0.step)⟩
   case rest =>
    clear HC8
    try clear p2
    try clear c3
    try clear c4
    try clear c6
    try clear c6b0
    try clear c6b1
    try clear p6
    try clear c9
    try clear c9b0
    try clear c9b1
    try clear p2
    obtain ⟨kq, x11_7, x12_7, rfl, rfl, HA, HJ7, ⟨mc7, rfl⟩⟩ := hcut
    cases kq with
    | zero => exact absurd HA.out (by simp [posternref05_Holds.j1])
    | succ kj7 =>
     have H := HA.out
     clear HA
     simp only [posternref05_Holds.j1] at H
     by_cases c10 : a0 = 16
     ·
      rw [if_pos c10] at H
      have c10b0 : (a0 == 16) = true := beq_iff_eq.mpr c10; have c10b1 : (a0 != 16) = false := bne_eq_false_iff_eq.mpr c10; clear c10; simp only [Option.some.injEq, Prod.mk.injEq] at H; obtain ⟨rfl, rfl⟩ := H
      go_wp2
      go_ret2
      exact ⟨by first | rfl | (simp; done) | (simp [*]; done), by repeat (first | exact Drawn0.refl _ | apply Drawn0.step)⟩
     ·
      rw [if_neg c10] at H
      have c10b0 : (a0 == 16) = false := beq_eq_false_iff_ne.mpr c10; have c10b1 : (a0 != 16) = true := bne_iff_ne.mpr c10
      by_cases c11 : a0 = 80
      ·
       rw [if_pos c11] at H
       have c11b0 : (a0 == 80) = true := beq_iff_eq.mpr c11; have c11b1 : (a0 != 80) = false := bne_eq_false_iff_eq.mpr c11; clear c11; simp only [Option.some.injEq, Prod.mk.injEq] at H; obtain ⟨rfl, rfl⟩ := H
       go_wp2
       go_ret2
       exact ⟨by first | rfl | (simp; done) | (simp [*]; done), by repeat (first | exact Drawn0.refl _ | apply Drawn0.step)⟩
      ·
       rw [if_neg c11] at H
       have c11b0 : (a0 == 80) = false := beq_eq_false_iff_ne.mpr c11; have c11b1 : (a0 != 80) = true := bne_iff_ne.mpr c11
       by_cases c12 : a0 = 32
       ·
        rw [if_pos c12] at H
        have c12b0 : (a0 == 32) = true := beq_iff_eq.mpr c12; have c12b1 : (a0 != 32) = false := bne_eq_false_iff_eq.mpr c12; clear c12; simp only [Option.some.injEq, Prod.mk.injEq] at H; obtain ⟨rfl, rfl⟩ := H
        go_wp2
        go_ret2
        exact ⟨by first | rfl | (simp; done) | (simp [*]; done), by repeat (first | exact Drawn0.refl _ | apply Drawn0.step)⟩
       ·
        rw [if_neg c12] at H
        have c12b0 : (a0 == 32) = false := beq_eq_false_iff_ne.mpr c12; have c12b1 : (a0 != 32) = true := bne_iff_ne.mpr c12
        by_cases c13 : a0 = 48
        ·
         rw [if_pos c13] at H
         have c13b0 : (a0 == 48) = true := beq_iff_eq.mpr c13; have c13b1 : (a0 != 48) = false := bne_eq_false_iff_eq.mpr c13; clear c13; simp only [Option.some.injEq, Prod.mk.injEq] at H; obtain ⟨rfl, rfl⟩ := H
         go_wp2
         go_ret2
         exact ⟨by first | rfl | (simp; done) | (simp [*]; done), by repeat (first | exact Drawn0.refl _ | apply Drawn0.step)⟩
        ·
         rw [if_neg c13] at H
         have c13b0 : (a0 == 48) = false := beq_eq_false_iff_ne.mpr c13; have c13b1 : (a0 != 48) = true := bne_iff_ne.mpr c13
         by_cases c14 : a0 = 160
         ·
          rw [if_pos c14] at H
          have c14b0 : (a0 == 160) = true := beq_iff_eq.mpr c14; have c14b1 : (a0 != 160) = false := bne_eq_false_iff_eq.mpr c14; clear c14; simp only [Option.some.injEq, Prod.mk.injEq] at H; obtain ⟨rfl, rfl⟩ := H
          go_wp2
          go_ret2
          exact ⟨by first | rfl | (simp; done) | (simp [*]; done), by repeat (first | exact Drawn0.refl _ | apply Drawn0.step)⟩
         ·
          rw [if_neg c14] at H
          have c14b0 : (a0 == 160) = false := beq_eq_false_iff_ne.mpr c14; have c14b1 : (a0 != 160) = true := bne_iff_ne.mpr c14
          by_cases c15 : a0 = 176
          ·
           rw [if_pos c15] at H
           have c15b0 : (a0 == 176) = true := beq_iff_eq.mpr c15; have c15b1 : (a0 != 176) = false := bne_eq_false_iff_eq.mpr c15; clear c15; simp only [Option.some.injEq, Prod.mk.injEq] at H; obtain ⟨rfl, rfl⟩ := H
           go_wp2
           go_ret2
           exact ⟨by first | rfl | (simp; done) | (simp [*]; done), by repeat (first | exact Drawn0.refl _ | apply Drawn0.step)⟩
          ·
           rw [if_neg c15] at H
           have c15b0 : (a0 == 176) = false := beq_eq_false_iff_ne.mpr c15; have c15b1 : (a0 != 176) = true := bne_iff_ne.mpr c15
           by_cases c16 : a0 = 96
           ·
            rw [if_pos c16] at H
            have c16b0 : (a0 == 96) = true := beq_iff_eq.mpr c16; have c16b1 : (a0 != 96) = false := bne_eq_false_iff_eq.mpr c16; clear c16; simp only [Option.some.injEq, Prod.mk.injEq] at H; obtain ⟨rfl, rfl⟩ := H
            go_wp2
            go_ret2
            exact ⟨by first | rfl | (simp; done) | (simp [*]; done), by repeat (first | exact Drawn0.refl _ | apply Drawn0.step)⟩
           ·
            rw [if_neg c16] at H
            have c16b0 : (a0 == 96) = false := beq_eq_false_iff_ne.mpr c16; have c16b1 : (a0 != 96) = true := bne_iff_ne.mpr c16
            by_cases c17 : a0 = 112
            ·
             rw [if_pos c17] at H
             have c17b0 : (a0 == 112) = true := beq_iff_eq.mpr c17; have c17b1 : (a0 != 112) = false := bne_eq_false_iff_eq.mpr c17; clear c17; simp only [Option.some.injEq, Prod.mk.injEq] at H; obtain ⟨rfl, rfl⟩ := H
             go_wp2
             go_ret2
             exact ⟨by first | rfl | (simp; done) | (simp [*]; done), by repeat (first | exact Drawn0.refl _ | apply Drawn0.step)⟩
            ·
             rw [if_neg c17] at H
             have c17b0 : (a0 == 112) = false := beq_eq_false_iff_ne.mpr c17; have c17b1 : (a0 != 112) = true := bne_iff_ne.mpr c17
             by_cases c18 : a0 = 192
             ·
              rw [if_pos c18] at H
              have c18b0 : (a0 == 192) = true := beq_iff_eq.mpr c18; have c18b1 : (a0 != 192) = false := bne_eq_false_iff_eq.mpr c18; clear c18; simp only [Option.some.injEq, Prod.mk.injEq] at H; obtain ⟨rfl, rfl⟩ := H
              go_wp2
              go_ret2
              exact ⟨by first | rfl | (simp; done) | (simp [*]; done), by repeat (first | exact Drawn0.refl _ | apply Drawn0.step)⟩
             ·
              rw [if_neg c18] at H
              have c18b0 : (a0 == 192) = false := beq_eq_false_iff_ne.mpr c18; have c18b1 : (a0 != 192) = true := bne_iff_ne.mpr c18
              by_cases c19 : a0 = 208
              ·
               rw [if_pos c19] at H
               have c19b0 : (a0 == 208) = true := beq_iff_eq.mpr c19; have c19b1 : (a0 != 208) = false := bne_eq_false_iff_eq.mpr c19; clear c19; simp only [Option.some.injEq, Prod.mk.injEq] at H; obtain ⟨rfl, rfl⟩ := H
               go_wp2
               go_ret2
               exact ⟨by first | rfl | (simp; done) | (simp [*]; done), by repeat (first | exact Drawn0.refl _ | apply Drawn0.step)⟩
              ·
               rw [if_neg c19] at H
               have c19b0 : (a0 == 208) = false := beq_eq_false_iff_ne.mpr c19; have c19b1 : (a0 != 208) = true := bne_iff_ne.mpr c19
               by_cases c20 : a0 = 64
               ·
                rw [if_pos c20] at H
                have c20b0 : (a0 == 64) = true := beq_iff_eq.mpr c20; have c20b1 : (a0 != 64) = false := bne_eq_false_iff_eq.mpr c20; clear c20; simp only [Option.some.injEq, Prod.mk.injEq] at H; obtain ⟨rfl, rfl⟩ := H
                go_wp2
                go_ret2
                exact ⟨by first | rfl | (simp; done) | (simp [*]; done), by repeat (first | exact Drawn0.refl _ | apply Drawn0.step)⟩
               ·
                rw [if_neg c20] at H
                have c20b0 : (a0 == 64) = false := beq_eq_false_iff_ne.mpr c20; have c20b1 : (a0 != 64) = true := bne_iff_ne.mpr c20; simp only [Option.some.injEq, Prod.mk.injEq] at H; obtain ⟨rfl, rfl⟩ := H
                go_wp2
                go_ret2
                exact ⟨by first | rfl | (simp; done) | (simp [*]; done), by repeat (first | exact Drawn0.refl _ | apply Drawn0.step)⟩

/-! ### posternref15_In: function 40 -/
def posternref15_In.f (a0_0 : Int) (a0_1 : Int) (a1 : Int) : Option (Bool) := (posternref15_Lo.f a0_0 a0_1).bind fun t261 => (if t261 ≤ a1 then ((posternref15_Hi.f a0_0 a0_1).bind fun t262 => (some (decide (a1 ≤ t262)))) else (some false))
set_option maxHeartbeats 8000000 in
set_option maxRecDepth 100000 in
theorem posternref15_In.calls (a0_0 : Int) (a0_1 : Int) (a1 : Int) (r : Bool) (w : World) (h : posternref15_In.f a0_0 a0_1 a1 = some r) :
  Calls Try.prog 40 #[.agg #[.int .u64 a0_0, .int .u64 a0_1], .int .u64 a1] w fun e w' => e = .returned (.bool r) ∧ Below w.heap.size w w' := by
 have hu58 := Try.underlying58
 have HB := Aside0.mk (Below.refl w.heap.size w)
 have H : ((posternref15_Lo.f a0_0 a0_1).bind fun t261 => (if t261 ≤ a1 then ((posternref15_Hi.f a0_0 a0_1).bind fun t262 => (some (decide (a1 ≤ t262)))) else (some false))) = some r := h
 clear h; replace H := Option.bind_eq_some_iff.mp H; obtain ⟨t261, A30, H⟩ := H
 replace H : (if t261 ≤ a1 then ((posternref15_Hi.f a0_0 a0_1).bind fun t262 => (some (decide (a1 ≤ t262)))) else (some false)) = some r := H
 have A3 := Aside0.mk A30; clear A30
 by_cases c4 : t261 ≤ a1
 ·
  rw [if_pos c4] at H
  have c4b0 : decide (t261 ≤ a1) = true := decide_eq_true c4; clear c4; replace H := Option.bind_eq_some_iff.mp H; obtain ⟨t262, A50, H⟩ := H
  replace H : (some (decide (a1 ≤ t262))) = some r := H
  have A5 := Aside0.mk A50; clear A50
  obtain rfl := Option.some.inj H
  go_enter Try.func40, Try.ntmps40
  go_wp2_with (first | ((with_reducible refine gate_dst (N := 2) rfl ?_); refine box_event ?hg (N := 2) ?hd (cs := #[.int .u64 a0_0, .int .u64 a0_1]) (t := 58) ?hr ?_; (case hd => rfl); (case hg => rfl); (case hr => first | (go_simp; done) | (go_simp; rfl)); intro gb260 hg w6 hbox hb; have n0_ := Aside0.mk (below_step (by repeat (first | (with_reducible first | exact HB.out | apply lA | apply lN | apply lD) | exact HB.out)) hb); have n1_ := Aside0.mk (hbox); have n2_ := Aside0.mk ((by rw [hg]; exact (below_size (by repeat (first | (with_reducible first | exact HB.out | apply lA | apply lN | apply lD) | exact HB.out))) : w.heap.size ≤ gb260)); have n3_ := n2_; clear HB; have HB := n0_; have BK260 := n1_; have GW260 := n2_; have GE260 := n3_; clear n0_ n1_ n2_ n3_; clear hb hbox hg; have hcz7_0 : w6.cell? ⟨gb260, 0, none⟩ = some (.int .u64 a0_0) := (blk_cell BK260.out 0).trans rfl; have hcz7_1 : w6.cell? ⟨gb260, 1, none⟩ = some (.int .u64 a0_1) := (blk_cell BK260.out 1).trans rfl; have hfz7_0 := blk_frozen BK260.out 0; have hfz7_1 := blk_frozen BK260.out 1) | ((with_reducible refine gate_callee (f := 30) rfl ?_); refine goesL_ (some 6) rfl rfl Try.func30 (by kernel_rfl) rfl #[.agg #[.int .u64 a0_0, .int .u64 a0_1]] rfl (by (try simp only [List.map_toArray, List.map_cons, List.map_nil]); first | done | rfl | (simp only [List.length_drop, List.length_take]; rfl)) ?_; (with_reducible refine (posternref15_Lo.calls a0_0 a0_1 t261 _ A3.out).mono ?_); rintro e w8 ⟨rfl, hb⟩; refine ⟨_, rfl, ?_⟩; have n0_ := Aside0.mk (blk_below (g := gb260) (o := .cells #[.int .u64 a0_0, .int .u64 a0_1] 58 (0, 0)) (by (with_reducible repeat (first | apply bN | apply bD | apply bA)); exact BK260.out) hb); have n1_ := Aside0.mk (below_step (by repeat (first | (with_reducible first | exact HB.out | apply lA | apply lN | apply lD | refine lS ?_ ‹_›) | exact HB.out)) hb); clear BK260; clear HB; have BK260 := n0_; have HB := n1_; clear n0_ n1_; (try clear hb); (try clear hb2); (try clear hk); (try clear hi); have hcz9_0 : w8.cell? ⟨gb260, 0, none⟩ = some (.int .u64 a0_0) := (blk_cell BK260.out 0).trans rfl; have hcz9_1 : w8.cell? ⟨gb260, 1, none⟩ = some (.int .u64 a0_1) := (blk_cell BK260.out 1).trans rfl; have hfz9_0 := blk_frozen BK260.out 0; have hfz9_1 := blk_frozen BK260.out 1) | (go_at_call 31; (with_reducible refine (posternref15_Hi.calls a0_0 a0_1 t262 _ A5.out).mono ?_); rintro e w10 ⟨rfl, hb⟩; have n0_ := Aside0.mk (blk_below (g := gb260) (o := .cells #[.int .u64 a0_0, .int .u64 a0_1] 58 (0, 0)) (by (with_reducible repeat (first | apply bN | apply bD | apply bA)); exact BK260.out) hb); have n1_ := Aside0.mk (below_step (by repeat (first | (with_reducible first | exact HB.out | apply lA | apply lN | apply lD | refine lS ?_ ‹_›) | exact HB.out)) hb); clear BK260; clear HB; have BK260 := n0_; have HB := n1_; clear n0_ n1_; (try clear hb); (try clear hb2); (try clear hk); (try clear hi)))
  go_ret
  exact ⟨by first | rfl | (simp [errW_none, errW_some] <;> rfl) | (simp [*, errW_none, errW_some] <;> rfl), by repeat (first | (with_reducible first | exact HB.out | apply lA | apply lN | apply lD | refine lS ?_ ‹_›) | exact HB.out)⟩
 ·
  rw [if_neg c4] at H
  have c4b0 : decide (t261 ≤ a1) = false := decide_eq_false c4; clear c4
  obtain rfl := Option.some.inj H
  go_enter Try.func40, Try.ntmps40
  go_wp2_with (first | ((with_reducible refine gate_dst (N := 2) rfl ?_); refine box_event ?hg (N := 2) ?hd (cs := #[.int .u64 a0_0, .int .u64 a0_1]) (t := 58) ?hr ?_; (case hd => rfl); (case hg => rfl); (case hr => first | (go_simp; done) | (go_simp; rfl)); intro gb260 hg w11 hbox hb; have n0_ := Aside0.mk (below_step (by repeat (first | (with_reducible first | exact HB.out | apply lA | apply lN | apply lD) | exact HB.out)) hb); have n1_ := Aside0.mk (hbox); have n2_ := Aside0.mk ((by rw [hg]; exact (below_size (by repeat (first | (with_reducible first | exact HB.out | apply lA | apply lN | apply lD) | exact HB.out))) : w.heap.size ≤ gb260)); have n3_ := n2_; clear HB; have HB := n0_; have BK260 := n1_; have GW260 := n2_; have GE260 := n3_; clear n0_ n1_ n2_ n3_; clear hb hbox hg; have hcz12_0 : w11.cell? ⟨gb260, 0, none⟩ = some (.int .u64 a0_0) := (blk_cell BK260.out 0).trans rfl; have hcz12_1 : w11.cell? ⟨gb260, 1, none⟩ = some (.int .u64 a0_1) := (blk_cell BK260.out 1).trans rfl; have hfz12_0 := blk_frozen BK260.out 0; have hfz12_1 := blk_frozen BK260.out 1) | ((with_reducible refine gate_callee (f := 30) rfl ?_); refine goesL_ (some 6) rfl rfl Try.func30 (by kernel_rfl) rfl #[.agg #[.int .u64 a0_0, .int .u64 a0_1]] rfl (by (try simp only [List.map_toArray, List.map_cons, List.map_nil]); first | done | rfl | (simp only [List.length_drop, List.length_take]; rfl)) ?_; (with_reducible refine (posternref15_Lo.calls a0_0 a0_1 t261 _ A3.out).mono ?_); rintro e w13 ⟨rfl, hb⟩; refine ⟨_, rfl, ?_⟩; have n0_ := Aside0.mk (blk_below (g := gb260) (o := .cells #[.int .u64 a0_0, .int .u64 a0_1] 58 (0, 0)) (by (with_reducible repeat (first | apply bN | apply bD | apply bA)); exact BK260.out) hb); have n1_ := Aside0.mk (below_step (by repeat (first | (with_reducible first | exact HB.out | apply lA | apply lN | apply lD | refine lS ?_ ‹_›) | exact HB.out)) hb); clear BK260; clear HB; have BK260 := n0_; have HB := n1_; clear n0_ n1_; (try clear hb); (try clear hb2); (try clear hk); (try clear hi)))
  go_ret
  exact ⟨by first | rfl | (simp [errW_none, errW_some] <;> rfl) | (simp [*, errW_none, errW_some] <;> rfl), by repeat (first | (with_reducible first | exact HB.out | apply lA | apply lN | apply lD | refine lS ?_ ‹_›) | exact HB.out)⟩

/-! ### posternlaw15_pair: function 38 -/
def posternlaw15_pair.l0 : Nat → Int → Bool → Int → Bool → List Int → Int → Int → Option (Bool)
 | 0, _, _, _, _, _, _, _ => none
 | k + 1, x0, x1, x2, x4, x26, x27, x28 => if x28 < x27 then (if 0 ≤ x28 then (if x28 < (x26.length : Int) then (if x4 = true then ((posternref05_Holds.f k x0 64 x2 (rd x26 x28)).bind fun bt271 => (if (bt271.1 == x1) = true then (some true) else (posternlaw15_pair.l0 k x0 x1 x2 x4 x26 x27 (wrap64 (x28 + 1))))) else ((posternref05_Holds.f k x0 64 (rd x26 x28) x2).bind fun bt273 => (if (bt273.1 == x1) = true then (some true) else (posternlaw15_pair.l0 k x0 x1 x2 x4 x26 x27 (wrap64 (x28 + 1)))))) else (none)) else (none)) else (some false)
def posternlaw15_pair.f (k : Nat) (a0 : Int) (a1 : Bool) (a2 : Int) (a3_0 : Int) (a3_1 : Int) (a4 : Bool) : Option (Bool) := if a0 = 16 then ((posternref15_In.f a3_0 a3_1 a2).bind fun t264 => (some t264)) else ((posternref15_Lo.f a3_0 a3_1).bind fun t265 => ((posternref15_Hi.f a3_0 a3_1).bind fun t266 => ((some (([t265, t266] : List Int) : List Int)).bind fun y267 => (posternlaw15_pair.l0 k a0 a1 a2 a4 y267 (y267.length : Int) 0))))
theorem posternlaw15_pair.mono_l : ∀ k, (∀ y0 y1 y2 y3 y4 y5 y6, LeO (posternlaw15_pair.l0 k y0 y1 y2 y3 y4 y5 y6) (posternlaw15_pair.l0 (k + 1) y0 y1 y2 y3 y4 y5 y6))
 | 0 => fun _ _ _ _ _ _ _ r h => by simp [posternlaw15_pair.l0] at h
 | k + 1 => by
  have ih0 := posternlaw15_pair.mono_l k
  ·
   intro y0 y1 y2 y3 y4 y5 y6
   unfold posternlaw15_pair.l0
   repeat' first
   | (with_reducible exact ih0 _ _ _ _ _ _ _)
   | (with_reducible exact posternref05_Holds.mono _ _ _ _ _)
   | (with_reducible exact LeO.refl _)
   | (with_reducible exact LeO.none _)
   | (with_reducible refine LeO.ite ?_ ?_)
   | (with_reducible refine LeO.bind ?_ (fun _ => ?_))
   | exact ih0 _ _ _ _ _ _ _
   | exact posternref05_Holds.mono _ _ _ _ _
   | exact LeO.none _
   | refine LeO.ite ?_ ?_
   | refine LeO.bind ?_ (fun _ => ?_)
theorem posternlaw15_pair.mono : ∀ a0 a1 a2 a3 a4 a5 k, LeO (posternlaw15_pair.f k a0 a1 a2 a3 a4 a5) (posternlaw15_pair.f (k + 1) a0 a1 a2 a3 a4 a5) := by
 intro a0 a1 a2 a3 a4 a5 k
 have ih0 := posternlaw15_pair.mono_l k
 unfold posternlaw15_pair.f
 repeat' first
   | (with_reducible exact ih0 _ _ _ _ _ _ _)
   | (with_reducible exact posternref05_Holds.mono _ _ _ _ _)
   | (with_reducible exact LeO.refl _)
   | (with_reducible exact LeO.none _)
   | (with_reducible refine LeO.ite ?_ ?_)
   | (with_reducible refine LeO.bind ?_ (fun _ => ?_))
   | exact ih0 _ _ _ _ _ _ _
   | exact posternref05_Holds.mono _ _ _ _ _
   | exact LeO.none _
   | refine LeO.ite ?_ ?_
   | refine LeO.bind ?_ (fun _ => ?_)
set_option maxHeartbeats 8000000 in
set_option maxRecDepth 100000 in
theorem posternlaw15_pair.calls (k : Nat) (a0 : Int) (a1 : Bool) (a2 : Int) (a3_0 : Int) (a3_1 : Int) (a4 : Bool) (r : Bool) (w : World) (h : posternlaw15_pair.f k a0 a1 a2 a3_0 a3_1 a4 = some r) :
  Calls Try.prog 38 #[.int .i64 a0, .bool a1, .int .u64 a2, .agg #[.int .u64 a3_0, .int .u64 a3_1], .bool a4] w fun e w' => e = .returned (.bool r) ∧ Below w.heap.size w w' := by
 have hu58 := Try.underlying58
 have HB := Aside0.mk (Below.refl w.heap.size w)
 have H : (if a0 = 16 then ((posternref15_In.f a3_0 a3_1 a2).bind fun t264 => (some t264)) else ((posternref15_Lo.f a3_0 a3_1).bind fun t265 => ((posternref15_Hi.f a3_0 a3_1).bind fun t266 => ((some (([t265, t266] : List Int) : List Int)).bind fun y267 => (posternlaw15_pair.l0 k a0 a1 a2 a4 y267 (y267.length : Int) 0))))) = some r := h
 clear h
 by_cases c6 : a0 = 16
 ·
  rw [if_pos c6] at H
  have c6b0 : (a0 == 16) = true := beq_iff_eq.mpr c6; have c6b1 : (a0 != 16) = false := bne_eq_false_iff_eq.mpr c6; clear c6; replace H := Option.bind_eq_some_iff.mp H; obtain ⟨t264, A70, H⟩ := H
  replace H : (some t264) = some r := H
  have A7 := Aside0.mk A70; clear A70
  obtain rfl := Option.some.inj H
  go_enter Try.func38, Try.ntmps38
  go_wp2_with (first | ((with_reducible refine gate_dst (N := 8) rfl ?_); refine box_event ?hg (N := 8) ?hd (cs := #[.int .u64 a3_0, .int .u64 a3_1]) (t := 58) ?hr ?_; (case hd => rfl); (case hg => rfl); (case hr => first | (go_simp; done) | (go_simp; rfl)); intro gb263 hg w8 hbox hb; have n0_ := Aside0.mk (below_step (by repeat (first | (with_reducible first | exact HB.out | apply lA | apply lN | apply lD) | exact HB.out)) hb); have n1_ := Aside0.mk (hbox); have n2_ := Aside0.mk ((by rw [hg]; exact (below_size (by repeat (first | (with_reducible first | exact HB.out | apply lA | apply lN | apply lD) | exact HB.out))) : w.heap.size ≤ gb263)); have n3_ := n2_; clear HB; have HB := n0_; have BK263 := n1_; have GW263 := n2_; have GE263 := n3_; clear n0_ n1_ n2_ n3_; clear hb hbox hg; have hcz9_0 : w8.cell? ⟨gb263, 0, none⟩ = some (.int .u64 a3_0) := (blk_cell BK263.out 0).trans rfl; have hcz9_1 : w8.cell? ⟨gb263, 1, none⟩ = some (.int .u64 a3_1) := (blk_cell BK263.out 1).trans rfl; have hfz9_0 := blk_frozen BK263.out 0; have hfz9_1 := blk_frozen BK263.out 1) | ((with_reducible refine gate_callee (f := 40) rfl ?_); refine goesL_ (some 21) rfl rfl Try.func40 (by kernel_rfl) rfl #[.agg #[.int .u64 a3_0, .int .u64 a3_1], .int .u64 a2] rfl (by (try simp only [List.map_toArray, List.map_cons, List.map_nil]); first | done | rfl | (simp only [List.length_drop, List.length_take]; rfl)) ?_; (with_reducible refine (posternref15_In.calls a3_0 a3_1 a2 t264 _ A7.out).mono ?_); rintro e w10 ⟨rfl, hb⟩; refine ⟨_, rfl, ?_⟩; have n0_ := Aside0.mk (blk_below (g := gb263) (o := .cells #[.int .u64 a3_0, .int .u64 a3_1] 58 (0, 0)) (by (with_reducible repeat (first | apply bN | apply bD | apply bA)); exact BK263.out) hb); have n1_ := Aside0.mk (below_step (by repeat (first | (with_reducible first | exact HB.out | apply lA | apply lN | apply lD | refine lS ?_ ‹_›) | exact HB.out)) hb); clear BK263; clear HB; have BK263 := n0_; have HB := n1_; clear n0_ n1_; (try clear hb); (try clear hb2); (try clear hk); (try clear hi)))
  go_ret
  exact ⟨by first | rfl | (simp [errW_none, errW_some] <;> rfl) | (simp [*, errW_none, errW_some] <;> rfl), by repeat (first | (with_reducible first | exact HB.out | apply lA | apply lN | apply lD | refine lS ?_ ‹_›) | exact HB.out)⟩
 ·
  rw [if_neg c6] at H
  have c6b0 : (a0 == 16) = false := beq_eq_false_iff_ne.mpr c6; have c6b1 : (a0 != 16) = true := bne_iff_ne.mpr c6; replace H := Option.bind_eq_some_iff.mp H; obtain ⟨t265, A110, H⟩ := H
  replace H : ((posternref15_Hi.f a3_0 a3_1).bind fun t266 => ((some (([t265, t266] : List Int) : List Int)).bind fun y267 => (posternlaw15_pair.l0 k a0 a1 a2 a4 y267 (y267.length : Int) 0))) = some r := H
  have A11 := Aside0.mk A110; clear A110; replace H := Option.bind_eq_some_iff.mp H; obtain ⟨t266, A120, H⟩ := H
  replace H : ((some (([t265, t266] : List Int) : List Int)).bind fun y267 => (posternlaw15_pair.l0 k a0 a1 a2 a4 y267 (y267.length : Int) 0)) = some r := H
  have A12 := Aside0.mk A120; clear A120
  obtain ⟨y267, hy267⟩ : ∃ y_ : List Int, y_ = (([t265, t266] : List Int)) := ⟨_, rfl⟩
  replace H : (posternlaw15_pair.l0 k a0 a1 a2 a4 y267 (y267.length : Int) 0) = some r := by first | (rw [hy267]; with_reducible exact H) | (have H2_ := (Option.bind_some _ _).symm.trans H; rw [hy267]; with_reducible exact H2_) | (have H2_ := (Option.bind_some _ _).symm.trans H; with_reducible exact H2_) | with_reducible exact H | (rw [hy267]; exact H) | exact H
  have Ny267 := Aside0.mk hy267
  clear hy267
  have H' := Aside0.mk H
  clear H
  go_enter Try.func38, Try.ntmps38
  try go_wp2_with (first | ((with_reducible refine gate_dst (N := 8) rfl ?_); refine box_event ?hg (N := 8) ?hd (cs := #[.int .u64 a3_0, .int .u64 a3_1]) (t := 58) ?hr ?_; (case hd => rfl); (case hg => rfl); (case hr => first | (go_simp; done) | (go_simp; rfl)); intro gb263 hg w13 hbox hb; have n0_ := Aside0.mk (below_step (by repeat (first | (with_reducible first | exact HB.out | apply lA | apply lN | apply lD) | exact HB.out)) hb); have n1_ := Aside0.mk (hbox); have n2_ := Aside0.mk ((by rw [hg]; exact (below_size (by repeat (first | (with_reducible first | exact HB.out | apply lA | apply lN | apply lD) | exact HB.out))) : w.heap.size ≤ gb263)); have n3_ := n2_; clear HB; have HB := n0_; have BK263 := n1_; have GW263 := n2_; have GE263 := n3_; clear n0_ n1_ n2_ n3_; clear hb hbox hg))
  have n0_ := Aside0.mk (blk_drew BK263.out)
  have n1_ := Aside0.mk (below_drew1 HB.out)
  clear BK263; clear HB; have BK263 := n0_; have HB := n1_; clear n0_ n1_
  refine start_ (n := 7) (S := fun w' => w'.cell? ⟨gb263, 0, none⟩ = some (.int .u64 a3_0) ∧ w'.cell? ⟨gb263, 1, none⟩ = some (.int .u64 a3_1)) (ds := []) #[false, false, false, false, false, false, false] (by kernel_rfl) rfl rfl ⟨(blk_cell BK263.out 0).trans rfl, (blk_cell BK263.out 1).trans rfl⟩ (fun hHeld => ?_)
  generalize w13.drew = w14 at BK263 HB hHeld ⊢
  refine pure_ (i := 6) (N := some 28) (v := ?_) (a' := ?_) #[false, false, false, false, false, false, true] rfl rfl (by kernel_rfl) (fun _ _ _ h => h) (Or.inl ⟨by rfl, ?_⟩) ?_ ?_
  rotate_left
  ·
   intro w'
   go_simp; with_reducible rfl
  rotate_left
  ·
   simp only [Act.put, List.setIfInBounds_toArray, List.set_cons_zero, List.set_cons_succ, i64_w, i32_w]
   rfl
  refine take_ (i := 0) (N := some 22) (v := ?_) (a' := ?_) #[true, false, false, false, false, false, true] rfl rfl (by kernel_rfl) (fun _ _ _ h => h) (Or.inl ⟨by rfl, ?_⟩) hHeld ?_ ?_
  rotate_left
  ·
   rintro w' ⟨s0, s1⟩
   go_simp; with_reducible rfl
  rotate_left
  ·
   simp only [Act.put, List.setIfInBounds_toArray, List.set_cons_zero, List.set_cons_succ, i64_w, i32_w]
   rfl
  refine take_ (i := 2) (N := some 24) (v := ?_) (a' := ?_) #[true, false, true, false, false, false, true] rfl rfl (by kernel_rfl) (fun _ _ _ h => h) (Or.inl ⟨by rfl, ?_⟩) hHeld ?_ ?_
  rotate_left
  ·
   rintro w' ⟨s0, s1⟩
   go_simp; with_reducible rfl
  rotate_left
  ·
   simp only [Act.put, List.setIfInBounds_toArray, List.set_cons_zero, List.set_cons_succ, i64_w, i32_w]
   rfl
  refine one_ (i := 1) (N := some 23) #[true, true, true, false, false, false, true] rfl rfl (by kernel_rfl) (by decide) (fun K hK => ?_)
  refine goes_ Try.func30 (by kernel_rfl) rfl #[.agg #[.int .u64 a3_0, .int .u64 a3_1]] (by rfl) rfl rfl (by (try simp only [List.map_toArray, List.map_cons, List.map_nil]); first | done | rfl | (simp only [List.length_drop, List.length_take]; rfl)) ?_
  with_reducible refine (posternref15_Lo.calls a3_0 a3_1 t265 _ A11.out).mono ?_
  rintro e w15 ⟨rfl, hb⟩
  refine ⟨_, rfl, ?_⟩
  have n0_ := Aside0.mk (blk_below (g := gb263) (o := .cells #[.int .u64 a3_0, .int .u64 a3_1] 58 (0, 0)) (by (with_reducible repeat (first | apply bN | apply bD | apply bA)); exact BK263.out) hb)
  have n1_ := Aside0.mk (below_step (by repeat (first | (with_reducible first | exact HB.out | apply lA | apply lN | apply lD | refine lS ?_ ‹_›) | exact HB.out)) hb)
  clear BK263; clear HB; have BK263 := n0_; have HB := n1_; clear n0_ n1_
  (try clear hb)
  (try clear hb2)
  (try clear hk)
  (try clear hi)
  refine hK.out _ _ ⟨(blk_cell BK263.out 0).trans rfl, (blk_cell BK263.out 1).trans rfl⟩ (fun hHeld => ?_)
  clear hK K
  refine norm_ (a' := ?_) ?_ ?_
  rotate_left
  ·
   show Act.put _ (some 23) _ = _
   simp only [Act.put, List.setIfInBounds_toArray, List.set_cons_zero, List.set_cons_succ, i64_w, i32_w]
   rfl
  refine one_ (i := 3) (N := some 25) #[true, true, true, true, false, false, true] rfl rfl (by kernel_rfl) (by decide) (fun K hK => ?_)
  refine goes_ Try.func31 (by kernel_rfl) rfl #[.agg #[.int .u64 a3_0, .int .u64 a3_1]] (by rfl) rfl rfl (by (try simp only [List.map_toArray, List.map_cons, List.map_nil]); first | done | rfl | (simp only [List.length_drop, List.length_take]; rfl)) ?_
  with_reducible refine (posternref15_Hi.calls a3_0 a3_1 t266 _ A12.out).mono ?_
  rintro e w16 ⟨rfl, hb⟩
  refine ⟨_, rfl, ?_⟩
  have n0_ := Aside0.mk (blk_below (g := gb263) (o := .cells #[.int .u64 a3_0, .int .u64 a3_1] 58 (0, 0)) (by (with_reducible repeat (first | apply bN | apply bD | apply bA)); exact BK263.out) hb)
  have n1_ := Aside0.mk (below_step (by repeat (first | (with_reducible first | exact HB.out | apply lA | apply lN | apply lD | refine lS ?_ ‹_›) | exact HB.out)) hb)
  clear BK263; clear HB; have BK263 := n0_; have HB := n1_; clear n0_ n1_
  (try clear hb)
  (try clear hb2)
  (try clear hk)
  (try clear hi)
  refine hK.out _ _ ⟨(blk_cell BK263.out 0).trans rfl, (blk_cell BK263.out 1).trans rfl⟩ (fun hHeld => ?_)
  clear hK K
  refine norm_ (a' := ?_) ?_ ?_
  rotate_left
  ·
   show Act.put _ (some 25) _ = _
   simp only [Act.put, List.setIfInBounds_toArray, List.set_cons_zero, List.set_cons_succ, i64_w, i32_w]
   rfl
  refine one_ (i := 4) (N := some 26) #[true, true, true, true, true, false, true] rfl rfl (by kernel_rfl) (by decide) (fun K hK => ?_)
  refine Kd.R_lit_step (Kd.int .u64) _ 22 ?hg (N := 26) ?hd (xs := ([t265, t266] : List Int)) (inner := [.int .u64 t265, .int .u64 t266]) (ok := fun _ => True) (okp := fun _ => True) ?hr ?hp (fun _ hk => hk) trivial (Below.refl _ _) (Nat.le_refl _) (by simp) ?_; (case hd => rfl); (case hg => rfl); (case hr => first | (go_simp; done) | (go_simp; rfl)); (case hp => exact (Reps.one (show Kd.M (Kd.int .u64) _ _ _ t265 [.int .u64 t265] from rfl) (Reps.one (show Kd.M (Kd.int .u64) _ _ _ t266 [.int .u64 t266] from rfl) (Reps.none _ _))))
  intro v268 w17 ho18 hb hg_ hnew_
  clear hg_ hnew_
  (first | rw [← Ny267.out] at ho18 | (simp only [Int.reduceToNat] at ho18; rw [← Ny267.out] at ho18))
  have n0_ := Aside0.mk (Kd.R_lower ho18 (below_size (by repeat (first | (with_reducible first | exact HB.out | apply lA | apply lN | apply lD | refine lS ?_ ‹_›) | exact HB.out))))
  have n1_ := Aside0.mk (blk_below (g := gb263) (o := .cells #[.int .u64 a3_0, .int .u64 a3_1] 58 (0, 0)) (by (with_reducible repeat (first | apply bN | apply bD | apply bA)); exact BK263.out) hb)
  have n2_ := Aside0.mk (below_step (by repeat (first | (with_reducible first | exact HB.out | apply lA | apply lN | apply lD | refine lS ?_ ‹_›) | exact HB.out)) hb)
  clear BK263; clear HB
  have HO269 := n0_
  have BK263 := n1_; have HB := n2_; clear n0_ n1_ n2_; clear hb ho18
  obtain ⟨Ao19, co19, eo19⟩ := Kd.R_slice HO269.out
  (first | subst eo19 | (injection eo19 with f1_ f2_ f3_; have f4_ := f1_.symm; have f5_ := f3_.symm; clear f1_ f2_ f3_; subst f4_; subst f5_))
  refine hK.out _ _ ⟨(blk_cell BK263.out 0).trans rfl, (blk_cell BK263.out 1).trans rfl⟩ (fun hHeld => ?_)
  clear hK K
  refine norm_ (a' := ?_) ?_ ?_
  rotate_left
  ·
   show Act.put _ (some 26) _ = _
   simp only [Act.put, List.setIfInBounds_toArray, List.set_cons_zero, List.set_cons_succ, i64_w, i32_w]
   rfl
  refine pure_ (i := 5) (N := some 27) (v := ?_) (a' := ?_) #[true, true, true, true, true, true, true] rfl rfl (by kernel_rfl) (fun _ _ _ h => h) (Or.inl ⟨by rfl, ?_⟩) ?_ ?_
  rotate_left
  ·
   intro w'
   go_simp; with_reducible rfl
  rotate_left
  ·
   simp only [Act.put, List.setIfInBounds_toArray, List.set_cons_zero, List.set_cons_succ, i64_w, i32_w]
   rfl
  refine done_ (by kernel_rfl) ?_
  try go_wp2
  go_loopg [28] k (fun kq v28 w' => ∃ (x28_1 : Int), v28 = .int .i64 x28_1 ∧ Aside0 (posternlaw15_pair.l0 kq a0 a1 a2 a4 y267 (y267.length : Int) x28_1 = some r) ∧ Aside0 (kq ≤ k) ∧ Aside0 (Kd.R (Kd.int .u64) 22 w' w.heap.size (fun _ => True) (.slice Ao19 y267.length co19) y267) ∧ Aside0 (w'.heap[gb263]? = some (.cells #[.int .u64 a3_0, .int .u64 a3_1] 58 (0, 0))) ∧ Aside0 (Below w.heap.size w w'))
  case atStart => exact ⟨(0), (by first | rfl | (simp; done) | (simp [*]; done)), H', ⟨Nat.le_refl _⟩, ⟨by (with_reducible repeat (first | apply Kd.R_alloc | apply Kd.R_drewN | apply Kd.R_drew)); exact HO269.out⟩, ⟨by (with_reducible repeat (first | apply bN | apply bD | apply bA)); exact BK263.out⟩, ⟨by repeat (first | (with_reducible first | exact HB.out | apply lA | apply lN | apply lD | refine lS ?_ ‹_›) | exact HB.out)⟩⟩
  case round =>
   clear H'
   try clear p2
   try clear c3
   try clear c4
   try clear c6
   try clear c6b0
   try clear c6b1
   try clear hcz9_0
   try clear hcz9_1
   try clear hfz9_0
   try clear hfz9_1
   obtain ⟨x28_1, rfl, HA, HK1, HO_26, BK263, HB⟩ := hrel
   cases gk with
   | zero => exact absurd HA.out (by simp [posternlaw15_pair.l0])
   | succ k1 =>
    have H := HA.out
    clear HA
    simp only [posternlaw15_pair.l0] at H
    by_cases c20 : x28_1 < (y267.length : Int)
    ·
     rw [if_pos c20] at H
     have c20b0 : decide (x28_1 < (y267.length : Int)) = true := decide_eq_true c20; clear c20
     by_cases c21 : 0 ≤ x28_1
     ·
      rw [if_pos c21] at H
      have c21b0 : decide (0 ≤ x28_1) = true := decide_eq_true c21; clear c21
      by_cases c22 : x28_1 < (y267.length : Int)
      ·
       rw [if_pos c22] at H
       have c22b0 : decide (x28_1 < (y267.length : Int)) = true := decide_eq_true c22; clear c22
       by_cases c23 : a4 = true
       ·
        subst c23
        have H1 : ((posternref05_Holds.f k1 a0 64 a2 (rd y267 x28_1)).bind fun bt271 => (if (bt271.1 == a1) = true then (some true) else (posternlaw15_pair.l0 k1 a0 a1 a2 true y267 (y267.length : Int) (wrap64 (x28_1 + 1))))) = some r := by rw [if_pos rfl] at H; exact H
        clear H; have H := H1; clear H1; replace H := Option.bind_eq_some_iff.mp H; obtain ⟨⟨t271, t272⟩, A240, H⟩ := H
        replace H : (if (t271 == a1) = true then (some true) else (posternlaw15_pair.l0 k1 a0 a1 a2 true y267 (y267.length : Int) (wrap64 (x28_1 + 1)))) = some r := H
        have A24 := Aside0.mk A240; clear A240
        by_cases c25 : (t271 == a1) = true
        ·
         rw [if_pos c25] at H
         have c25b0 : (t271 == a1) = true := c25
         (try (have c25b1 : decide (t271 = a1) = true := by simpa using c25))
         (try (have c25b2 : (t271 == a1) = true := by simpa using c25))
         clear c25
         obtain rfl := Option.some.inj H
         have p270 : 0 ≤ (x28_1 : Int) := of_decide_eq_true (by first | (with_reducible assumption) | assumption)
         have q270 : x28_1 < (y267.length : Int) := of_decide_eq_true (by first | (with_reducible assumption) | assumption)
         obtain ⟨ad270, e270, hx270_0⟩ := Kd.at_int (Kd.R_reads' HO_26.out).2.2 x28_1 p270 q270
         cases e270
         replace p270 := eq_true p270
         replace q270 := eq_true q270
         go_wp2_with (first | ((with_reducible refine gate_callee (f := 34) rfl ?_); refine goesL_ (some 42) rfl rfl Try.func34 (by kernel_rfl) rfl #[.int .i64 a0, .int .i64 64, .int .u64 a2, .int .u64 (rd y267 x28_1)] rfl (by (try simp only [List.map_toArray, List.map_cons, List.map_nil]); first | done | rfl | (simp only [List.length_drop, List.length_take]; rfl)) ?_; (with_reducible refine (posternref05_Holds.calls k1 a0 64 a2 (rd y267 x28_1) t271 t272 _ A24.out).mono ?_); rintro e w' ⟨rfl, ⟨nd, rfl⟩⟩; refine ⟨_, rfl, ?_⟩))
         go_ret
         exact ⟨by first | rfl | (simp [errW_none, errW_some] <;> rfl) | (simp [*, errW_none, errW_some] <;> rfl), by repeat (first | (with_reducible first | exact HB.out | apply lA | apply lN | apply lD | refine lS ?_ ‹_›) | exact HB.out)⟩
        ·
         rw [if_neg c25] at H
         have c25b0 : (t271 == a1) = false := by simpa using c25
         (try (have c25b1 : decide (t271 = a1) = false := by simpa using c25))
         (try (have c25b2 : (t271 == a1) = false := by simpa using c25))
         (try (have c25b3 : ¬ (t271 = a1) := by simpa using c25))
         clear c25
         have H' := Aside0.mk H
         clear H
         have p270 : 0 ≤ (x28_1 : Int) := of_decide_eq_true (by first | (with_reducible assumption) | assumption)
         have q270 : x28_1 < (y267.length : Int) := of_decide_eq_true (by first | (with_reducible assumption) | assumption)
         obtain ⟨ad270, e270, hx270_0⟩ := Kd.at_int (Kd.R_reads' HO_26.out).2.2 x28_1 p270 q270
         cases e270
         replace p270 := eq_true p270
         replace q270 := eq_true q270
         go_wp2_with (first | ((with_reducible refine gate_callee (f := 34) rfl ?_); refine goesL_ (some 42) rfl rfl Try.func34 (by kernel_rfl) rfl #[.int .i64 a0, .int .i64 64, .int .u64 a2, .int .u64 (rd y267 x28_1)] rfl (by (try simp only [List.map_toArray, List.map_cons, List.map_nil]); first | done | rfl | (simp only [List.length_drop, List.length_take]; rfl)) ?_; (with_reducible refine (posternref05_Holds.calls k1 a0 64 a2 (rd y267 x28_1) t271 t272 _ A24.out).mono ?_); rintro e w' ⟨rfl, ⟨nd, rfl⟩⟩; refine ⟨_, rfl, ?_⟩))
         go_roundg k1
         case measure => have := HK1.out; omega
         case rel => exact ⟨(wrap64 (x28_1 + 1)), (by first | rfl | (simp; done) | (simp [*]; done)), H', ⟨by have := HK1.out; omega⟩, ⟨by (with_reducible repeat (first | apply Kd.R_alloc | apply Kd.R_drewN | apply Kd.R_drew)); exact HO_26.out⟩, ⟨by (with_reducible repeat (first | apply bN | apply bD | apply bA)); exact BK263.out⟩, ⟨by repeat (first | (with_reducible first | exact HB.out | apply lA | apply lN | apply lD | refine lS ?_ ‹_›) | exact HB.out)⟩⟩
       ·
        replace c23 := Bool.eq_false_iff.mpr c23
        subst c23
        have H1 : ((posternref05_Holds.f k1 a0 64 (rd y267 x28_1) a2).bind fun bt273 => (if (bt273.1 == a1) = true then (some true) else (posternlaw15_pair.l0 k1 a0 a1 a2 false y267 (y267.length : Int) (wrap64 (x28_1 + 1))))) = some r := by rw [if_neg (show ¬ (false = true) by decide)] at H; exact H
        clear H; have H := H1; clear H1; replace H := Option.bind_eq_some_iff.mp H; obtain ⟨⟨t273, t274⟩, A260, H⟩ := H
        replace H : (if (t273 == a1) = true then (some true) else (posternlaw15_pair.l0 k1 a0 a1 a2 false y267 (y267.length : Int) (wrap64 (x28_1 + 1)))) = some r := H
        have A26 := Aside0.mk A260; clear A260
        by_cases c27 : (t273 == a1) = true
        ·
         rw [if_pos c27] at H
         have c27b0 : (t273 == a1) = true := c27
         (try (have c27b1 : decide (t273 = a1) = true := by simpa using c27))
         (try (have c27b2 : (t273 == a1) = true := by simpa using c27))
         clear c27
         obtain rfl := Option.some.inj H
         have p270 : 0 ≤ (x28_1 : Int) := of_decide_eq_true (by first | (with_reducible assumption) | assumption)
         have q270 : x28_1 < (y267.length : Int) := of_decide_eq_true (by first | (with_reducible assumption) | assumption)
         obtain ⟨ad270, e270, hx270_0⟩ := Kd.at_int (Kd.R_reads' HO_26.out).2.2 x28_1 p270 q270
         cases e270
         replace p270 := eq_true p270
         replace q270 := eq_true q270
         go_wp2_with (first | ((with_reducible refine gate_callee (f := 34) rfl ?_); refine goesL_ (some 42) rfl rfl Try.func34 (by kernel_rfl) rfl #[.int .i64 a0, .int .i64 64, .int .u64 (rd y267 x28_1), .int .u64 a2] rfl (by (try simp only [List.map_toArray, List.map_cons, List.map_nil]); first | done | rfl | (simp only [List.length_drop, List.length_take]; rfl)) ?_; (with_reducible refine (posternref05_Holds.calls k1 a0 64 (rd y267 x28_1) a2 t273 t274 _ A26.out).mono ?_); rintro e w' ⟨rfl, ⟨nd, rfl⟩⟩; refine ⟨_, rfl, ?_⟩))
         go_ret
         exact ⟨by first | rfl | (simp [errW_none, errW_some] <;> rfl) | (simp [*, errW_none, errW_some] <;> rfl), by repeat (first | (with_reducible first | exact HB.out | apply lA | apply lN | apply lD | refine lS ?_ ‹_›) | exact HB.out)⟩
        ·
         rw [if_neg c27] at H
         have c27b0 : (t273 == a1) = false := by simpa using c27
         (try (have c27b1 : decide (t273 = a1) = false := by simpa using c27))
         (try (have c27b2 : (t273 == a1) = false := by simpa using c27))
         (try (have c27b3 : ¬ (t273 = a1) := by simpa using c27))
         clear c27
         have H' := Aside0.mk H
         clear H
         have p270 : 0 ≤ (x28_1 : Int) := of_decide_eq_true (by first | (with_reducible assumption) | assumption)
         have q270 : x28_1 < (y267.length : Int) := of_decide_eq_true (by first | (with_reducible assumption) | assumption)
         obtain ⟨ad270, e270, hx270_0⟩ := Kd.at_int (Kd.R_reads' HO_26.out).2.2 x28_1 p270 q270
         cases e270
         replace p270 := eq_true p270
         replace q270 := eq_true q270
         go_wp2_with (first | ((with_reducible refine gate_callee (f := 34) rfl ?_); refine goesL_ (some 42) rfl rfl Try.func34 (by kernel_rfl) rfl #[.int .i64 a0, .int .i64 64, .int .u64 (rd y267 x28_1), .int .u64 a2] rfl (by (try simp only [List.map_toArray, List.map_cons, List.map_nil]); first | done | rfl | (simp only [List.length_drop, List.length_take]; rfl)) ?_; (with_reducible refine (posternref05_Holds.calls k1 a0 64 (rd y267 x28_1) a2 t273 t274 _ A26.out).mono ?_); rintro e w' ⟨rfl, ⟨nd, rfl⟩⟩; refine ⟨_, rfl, ?_⟩))
         go_roundg k1
         case measure => have := HK1.out; omega
         case rel => exact ⟨(wrap64 (x28_1 + 1)), (by first | rfl | (simp; done) | (simp [*]; done)), H', ⟨by have := HK1.out; omega⟩, ⟨by (with_reducible repeat (first | apply Kd.R_alloc | apply Kd.R_drewN | apply Kd.R_drew)); exact HO_26.out⟩, ⟨by (with_reducible repeat (first | apply bN | apply bD | apply bA)); exact BK263.out⟩, ⟨by repeat (first | (with_reducible first | exact HB.out | apply lA | apply lN | apply lD | refine lS ?_ ‹_›) | exact HB.out)⟩⟩
      ·
       rw [if_neg c22] at H
       exact absurd H (by simp)
     ·
      rw [if_neg c21] at H
      exact absurd H (by simp)
    ·
     rw [if_neg c20] at H
     have c20b0 : decide (x28_1 < (y267.length : Int)) = false := decide_eq_false c20; clear c20
     obtain rfl := Option.some.inj H
     go_wp2
     go_ret
     exact ⟨by first | rfl | (simp [errW_none, errW_some] <;> rfl) | (simp [*, errW_none, errW_some] <;> rfl), by repeat (first | (with_reducible first | exact HB.out | apply lA | apply lN | apply lD | refine lS ?_ ‹_›) | exact HB.out)⟩

end Go.Proofs.Ytladlljnpmpdpaa.PSpanEnds
