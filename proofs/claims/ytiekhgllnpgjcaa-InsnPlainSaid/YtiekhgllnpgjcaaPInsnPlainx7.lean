-- Written by a program of this session (a variant of the print), for this claim. Lean checks it.
import Derived.Test.YtiekhgllnpgjcaaPInsnPlainx0
import Derived.Test.YtiekhgllnpgjcaaPInsnPlainx6
namespace Go.Proofs.Ytiekhgllnpgjcaa.PInsnPlain
open Go.RowKit Go.Proofs.YtiekhgllnpgjcaaW.PrintWords Go.Proofs.YtiekhgllnpgjcaaW.PrintLast Go.Proofs.YtiekhgllnpgjcaaW.PrintMore
attribute [local go_sem] max2_int min2_int max_two min_two max_three min_three max_four min_four   -- for this text's walks alone
attribute [local go_sem high] Go.Proofs.Ytiekhgllnpgjcaa.NotLaw.not_u64 Go.Proofs.Ytiekhgllnpgjcaa.NotLaw.not_u32 Go.Proofs.Ytiekhgllnpgjcaa.NotLaw.not_u16 Go.Proofs.Ytiekhgllnpgjcaa.NotLaw.not_u8
set_option linter.unusedVariables false
set_option linter.unusedSimpArgs false

/-! ### posternref02_Plain: function 30 -/
mutual
def posternref02_Plain.j0 : Nat → List (S24) → Int → Bool → Option (Int × Int)
  | 0, _, _, _ => none
  | k + 1, x0, x1, x16 => if x16 = true then (some (0, 2)) else (if 0 ≤ x1 then (if x1 < (x0.length : Int) then ((posternref02_Known.f k (wrap64 ((rd_T24 x0 x1).f0))).bind fun t161 => (if t161 = true then ((posternref02_Uses.f k (wrap64 ((rd_T24 x0 x1).f0))).bind fun bt162 => (if bt162.1 = true then (if ((rd_T24 x0 x1).f1) > 10 then (posternref02_Plain.j1 k x0 x1 true ((rd_T24 x0 x1).f0) ((rd_T24 x0 x1).f1) ((rd_T24 x0 x1).f2) ((rd_T24 x0 x1).f3) ((rd_T24 x0 x1).f4)) else (if bt162.2.1 = true then (if ((rd_T24 x0 x1).f2) > 10 then (posternref02_Plain.j1 k x0 x1 true ((rd_T24 x0 x1).f0) ((rd_T24 x0 x1).f1) ((rd_T24 x0 x1).f2) ((rd_T24 x0 x1).f3) ((rd_T24 x0 x1).f4)) else (if bt162.2.2.1 = true then (if bt162.2.2.2 = true then (posternref02_Plain.j1 k x0 x1 false ((rd_T24 x0 x1).f0) ((rd_T24 x0 x1).f1) ((rd_T24 x0 x1).f2) ((rd_T24 x0 x1).f3) ((rd_T24 x0 x1).f4)) else (posternref02_Plain.j1 k x0 x1 (((rd_T24 x0 x1).f4) != 0) ((rd_T24 x0 x1).f0) ((rd_T24 x0 x1).f1) ((rd_T24 x0 x1).f2) ((rd_T24 x0 x1).f3) ((rd_T24 x0 x1).f4))) else (if ((rd_T24 x0 x1).f3) = 0 then (if bt162.2.2.2 = true then (posternref02_Plain.j1 k x0 x1 false ((rd_T24 x0 x1).f0) ((rd_T24 x0 x1).f1) ((rd_T24 x0 x1).f2) ((rd_T24 x0 x1).f3) ((rd_T24 x0 x1).f4)) else (posternref02_Plain.j1 k x0 x1 (((rd_T24 x0 x1).f4) != 0) ((rd_T24 x0 x1).f0) ((rd_T24 x0 x1).f1) ((rd_T24 x0 x1).f2) ((rd_T24 x0 x1).f3) ((rd_T24 x0 x1).f4))) else (posternref02_Plain.j1 k x0 x1 true ((rd_T24 x0 x1).f0) ((rd_T24 x0 x1).f1) ((rd_T24 x0 x1).f2) ((rd_T24 x0 x1).f3) ((rd_T24 x0 x1).f4))))) else (if ((rd_T24 x0 x1).f2) = 0 then (if bt162.2.2.1 = true then (if bt162.2.2.2 = true then (posternref02_Plain.j1 k x0 x1 false ((rd_T24 x0 x1).f0) ((rd_T24 x0 x1).f1) ((rd_T24 x0 x1).f2) ((rd_T24 x0 x1).f3) ((rd_T24 x0 x1).f4)) else (posternref02_Plain.j1 k x0 x1 (((rd_T24 x0 x1).f4) != 0) ((rd_T24 x0 x1).f0) ((rd_T24 x0 x1).f1) ((rd_T24 x0 x1).f2) ((rd_T24 x0 x1).f3) ((rd_T24 x0 x1).f4))) else (if ((rd_T24 x0 x1).f3) = 0 then (if bt162.2.2.2 = true then (posternref02_Plain.j1 k x0 x1 false ((rd_T24 x0 x1).f0) ((rd_T24 x0 x1).f1) ((rd_T24 x0 x1).f2) ((rd_T24 x0 x1).f3) ((rd_T24 x0 x1).f4)) else (posternref02_Plain.j1 k x0 x1 (((rd_T24 x0 x1).f4) != 0) ((rd_T24 x0 x1).f0) ((rd_T24 x0 x1).f1) ((rd_T24 x0 x1).f2) ((rd_T24 x0 x1).f3) ((rd_T24 x0 x1).f4))) else (posternref02_Plain.j1 k x0 x1 true ((rd_T24 x0 x1).f0) ((rd_T24 x0 x1).f1) ((rd_T24 x0 x1).f2) ((rd_T24 x0 x1).f3) ((rd_T24 x0 x1).f4)))) else (posternref02_Plain.j1 k x0 x1 true ((rd_T24 x0 x1).f0) ((rd_T24 x0 x1).f1) ((rd_T24 x0 x1).f2) ((rd_T24 x0 x1).f3) ((rd_T24 x0 x1).f4))))) else (if ((rd_T24 x0 x1).f1) = 0 then (if bt162.2.1 = true then (if ((rd_T24 x0 x1).f2) > 10 then (posternref02_Plain.j1 k x0 x1 true ((rd_T24 x0 x1).f0) ((rd_T24 x0 x1).f1) ((rd_T24 x0 x1).f2) ((rd_T24 x0 x1).f3) ((rd_T24 x0 x1).f4)) else (if bt162.2.2.1 = true then (if bt162.2.2.2 = true then (posternref02_Plain.j1 k x0 x1 false ((rd_T24 x0 x1).f0) ((rd_T24 x0 x1).f1) ((rd_T24 x0 x1).f2) ((rd_T24 x0 x1).f3) ((rd_T24 x0 x1).f4)) else (posternref02_Plain.j1 k x0 x1 (((rd_T24 x0 x1).f4) != 0) ((rd_T24 x0 x1).f0) ((rd_T24 x0 x1).f1) ((rd_T24 x0 x1).f2) ((rd_T24 x0 x1).f3) ((rd_T24 x0 x1).f4))) else (if ((rd_T24 x0 x1).f3) = 0 then (if bt162.2.2.2 = true then (posternref02_Plain.j1 k x0 x1 false ((rd_T24 x0 x1).f0) ((rd_T24 x0 x1).f1) ((rd_T24 x0 x1).f2) ((rd_T24 x0 x1).f3) ((rd_T24 x0 x1).f4)) else (posternref02_Plain.j1 k x0 x1 (((rd_T24 x0 x1).f4) != 0) ((rd_T24 x0 x1).f0) ((rd_T24 x0 x1).f1) ((rd_T24 x0 x1).f2) ((rd_T24 x0 x1).f3) ((rd_T24 x0 x1).f4))) else (posternref02_Plain.j1 k x0 x1 true ((rd_T24 x0 x1).f0) ((rd_T24 x0 x1).f1) ((rd_T24 x0 x1).f2) ((rd_T24 x0 x1).f3) ((rd_T24 x0 x1).f4))))) else (if ((rd_T24 x0 x1).f2) = 0 then (if bt162.2.2.1 = true then (if bt162.2.2.2 = true then (posternref02_Plain.j1 k x0 x1 false ((rd_T24 x0 x1).f0) ((rd_T24 x0 x1).f1) ((rd_T24 x0 x1).f2) ((rd_T24 x0 x1).f3) ((rd_T24 x0 x1).f4)) else (posternref02_Plain.j1 k x0 x1 (((rd_T24 x0 x1).f4) != 0) ((rd_T24 x0 x1).f0) ((rd_T24 x0 x1).f1) ((rd_T24 x0 x1).f2) ((rd_T24 x0 x1).f3) ((rd_T24 x0 x1).f4))) else (if ((rd_T24 x0 x1).f3) = 0 then (if bt162.2.2.2 = true then (posternref02_Plain.j1 k x0 x1 false ((rd_T24 x0 x1).f0) ((rd_T24 x0 x1).f1) ((rd_T24 x0 x1).f2) ((rd_T24 x0 x1).f3) ((rd_T24 x0 x1).f4)) else (posternref02_Plain.j1 k x0 x1 (((rd_T24 x0 x1).f4) != 0) ((rd_T24 x0 x1).f0) ((rd_T24 x0 x1).f1) ((rd_T24 x0 x1).f2) ((rd_T24 x0 x1).f3) ((rd_T24 x0 x1).f4))) else (posternref02_Plain.j1 k x0 x1 true ((rd_T24 x0 x1).f0) ((rd_T24 x0 x1).f1) ((rd_T24 x0 x1).f2) ((rd_T24 x0 x1).f3) ((rd_T24 x0 x1).f4)))) else (posternref02_Plain.j1 k x0 x1 true ((rd_T24 x0 x1).f0) ((rd_T24 x0 x1).f1) ((rd_T24 x0 x1).f2) ((rd_T24 x0 x1).f3) ((rd_T24 x0 x1).f4)))) else (posternref02_Plain.j1 k x0 x1 true ((rd_T24 x0 x1).f0) ((rd_T24 x0 x1).f1) ((rd_T24 x0 x1).f2) ((rd_T24 x0 x1).f3) ((rd_T24 x0 x1).f4))))) else (some (0, 41)))) else (none)) else (none))
def posternref02_Plain.j1 : Nat → List (S24) → Int → Bool → Int → Int → Int → Int → Int → Option (Int × Int)
  | 0, _, _, _, _, _, _, _, _ => none
  | k + 1, x0, x1, x85, x161000, x161001, x161002, x161003, x161004 => if x85 = true then (some (0, 42)) else (if x161000 = 133 then (posternref02_Plain.j2 k x0 x1 (decide (x161002 > 1)) x161000 x161001 x161002 x161003 x161004) else (if x161000 = 24 then (posternref02_Plain.j2 k x0 x1 (decide (x161002 > 1)) x161000 x161001 x161002 x161003 x161004) else (posternref02_Plain.j2 k x0 x1 false x161000 x161001 x161002 x161003 x161004)))
def posternref02_Plain.j2 : Nat → List (S24) → Int → Bool → Int → Int → Int → Int → Int → Option (Int × Int)
  | 0, _, _, _, _, _, _, _, _ => none
  | k + 1, x0, x1, x98, x161000, x161001, x161002, x161003, x161004 => if x98 = true then (some (0, 42)) else (if x161000 = 24 then (if x1 = (wrap64 ((x0.length : Int) - 1)) then (some (0, 42)) else (if 0 ≤ (wrap64 (x1 + 1)) then (if (wrap64 (x1 + 1)) < (x0.length : Int) then (if ((rd_T24 x0 (wrap64 (x1 + 1))).f0) = 0 then (if ((rd_T24 x0 (wrap64 (x1 + 1))).f1) = 0 then (if ((rd_T24 x0 (wrap64 (x1 + 1))).f2) = 0 then (if ((rd_T24 x0 (wrap64 (x1 + 1))).f3) = 0 then (some (2, 0)) else (some (0, 42))) else (some (0, 42))) else (some (0, 42))) else (some (0, 42))) else (none)) else (none))) else (some (1, 0)))
end
def posternref02_Plain.f (k : Nat) (l0 : List (S24)) (a1 : Int) : Option (Int × Int) := if a1 < 0 then (posternref02_Plain.j0 k l0 a1 true) else (posternref02_Plain.j0 k l0 a1 (decide (a1 ≥ (l0.length : Int))))
theorem posternref02_Plain.mono_l : ∀ k, (∀ y0 y1 y2, LeO (posternref02_Plain.j0 k y0 y1 y2) (posternref02_Plain.j0 (k + 1) y0 y1 y2)) ∧ (∀ y0 y1 y2 y3 y4 y5 y6 y7, LeO (posternref02_Plain.j1 k y0 y1 y2 y3 y4 y5 y6 y7) (posternref02_Plain.j1 (k + 1) y0 y1 y2 y3 y4 y5 y6 y7)) ∧ (∀ y0 y1 y2 y3 y4 y5 y6 y7, LeO (posternref02_Plain.j2 k y0 y1 y2 y3 y4 y5 y6 y7) (posternref02_Plain.j2 (k + 1) y0 y1 y2 y3 y4 y5 y6 y7))
  | 0 => ⟨fun _ _ _ r h => by simp [posternref02_Plain.j0] at h, fun _ _ _ _ _ _ _ _ r h => by simp [posternref02_Plain.j1] at h, fun _ _ _ _ _ _ _ _ r h => by simp [posternref02_Plain.j2] at h⟩
  | k + 1 => by
    obtain ⟨ih0, ih1, ih2⟩ := posternref02_Plain.mono_l k
    refine ⟨?_, ?_, ?_⟩
    · intro y0 y1 y2
      unfold posternref02_Plain.j0
      repeat' first
      | (with_reducible exact ih0 _ _ _)
      | (with_reducible exact ih1 _ _ _ _ _ _ _ _)
      | (with_reducible exact ih2 _ _ _ _ _ _ _ _)
      | (with_reducible exact posternref02_Known.mono _ _)
      | (with_reducible exact posternref02_Uses.mono _ _)
      | (with_reducible exact LeO.refl _)
      | (with_reducible exact LeO.none _)
      | (with_reducible refine LeO.ite ?_ ?_)
      | (with_reducible refine LeO.bind ?_ (fun _ => ?_))
      | exact ih0 _ _ _
      | exact ih1 _ _ _ _ _ _ _ _
      | exact ih2 _ _ _ _ _ _ _ _
      | exact posternref02_Known.mono _ _
      | exact posternref02_Uses.mono _ _
      | exact LeO.none _
      | refine LeO.ite ?_ ?_
      | refine LeO.bind ?_ (fun _ => ?_)
    · intro y0 y1 y2 y3 y4 y5 y6 y7
      unfold posternref02_Plain.j1
      repeat' first
      | (with_reducible exact ih0 _ _ _)
      | (with_reducible exact ih1 _ _ _ _ _ _ _ _)
      | (with_reducible exact ih2 _ _ _ _ _ _ _ _)
      | (with_reducible exact posternref02_Known.mono _ _)
      | (with_reducible exact posternref02_Uses.mono _ _)
      | (with_reducible exact LeO.refl _)
      | (with_reducible exact LeO.none _)
      | (with_reducible refine LeO.ite ?_ ?_)
      | (with_reducible refine LeO.bind ?_ (fun _ => ?_))
      | exact ih0 _ _ _
      | exact ih1 _ _ _ _ _ _ _ _
      | exact ih2 _ _ _ _ _ _ _ _
      | exact posternref02_Known.mono _ _
      | exact posternref02_Uses.mono _ _
      | exact LeO.none _
      | refine LeO.ite ?_ ?_
      | refine LeO.bind ?_ (fun _ => ?_)
    · intro y0 y1 y2 y3 y4 y5 y6 y7
      unfold posternref02_Plain.j2
      repeat' first
      | (with_reducible exact ih0 _ _ _)
      | (with_reducible exact ih1 _ _ _ _ _ _ _ _)
      | (with_reducible exact ih2 _ _ _ _ _ _ _ _)
      | (with_reducible exact posternref02_Known.mono _ _)
      | (with_reducible exact posternref02_Uses.mono _ _)
      | (with_reducible exact LeO.refl _)
      | (with_reducible exact LeO.none _)
      | (with_reducible refine LeO.ite ?_ ?_)
      | (with_reducible refine LeO.bind ?_ (fun _ => ?_))
      | exact ih0 _ _ _
      | exact ih1 _ _ _ _ _ _ _ _
      | exact ih2 _ _ _ _ _ _ _ _
      | exact posternref02_Known.mono _ _
      | exact posternref02_Uses.mono _ _
      | exact LeO.none _
      | refine LeO.ite ?_ ?_
      | refine LeO.bind ?_ (fun _ => ?_)
theorem posternref02_Plain.mono : ∀ a0 a1 k, LeO (posternref02_Plain.f k a0 a1) (posternref02_Plain.f (k + 1) a0 a1) := by
  intro a0 a1 k
  obtain ⟨ih0, ih1, ih2⟩ := posternref02_Plain.mono_l k
  unfold posternref02_Plain.f
  repeat' first
      | (with_reducible exact ih0 _ _ _)
      | (with_reducible exact ih1 _ _ _ _ _ _ _ _)
      | (with_reducible exact ih2 _ _ _ _ _ _ _ _)
      | (with_reducible exact posternref02_Known.mono _ _)
      | (with_reducible exact posternref02_Uses.mono _ _)
      | (with_reducible exact LeO.refl _)
      | (with_reducible exact LeO.none _)
      | (with_reducible refine LeO.ite ?_ ?_)
      | (with_reducible refine LeO.bind ?_ (fun _ => ?_))
      | exact ih0 _ _ _
      | exact ih1 _ _ _ _ _ _ _ _
      | exact ih2 _ _ _ _ _ _ _ _
      | exact posternref02_Known.mono _ _
      | exact posternref02_Uses.mono _ _
      | exact LeO.none _
      | refine LeO.ite ?_ ?_
      | refine LeO.bind ?_ (fun _ => ?_)
set_option maxHeartbeats 8000000 in
set_option maxRecDepth 100000 in
theorem posternref02_Plain.calls (k : Nat) (A0 : Option Addr) (c0 : Nat) (l0 : List (S24)) (a1 : Int) (r1 : Int) (r2 : Int) (w : World) (hr0 : Kd.C k24 w A0 l0.length l0) (hc0 : l0.length ≤ c0) (h : posternref02_Plain.f k l0 a1 = some (r1, r2)) :
    Calls Try.prog 30 #[.slice A0 l0.length c0, .int .i64 a1] w fun e w' => e = .returned (.tuple #[.int .i64 r1, .int .i64 r2]) ∧ Below w.heap.size w w' := by
  have hu24 := Try.underlying24
  have hu76 := Try.underlying76
  have HR0 := Aside0.mk hr0
  have HC0 := Aside0.mk hc0
  clear hr0 hc0
  have HB := Aside0.mk (Below.refl w.heap.size w)
  have H : (if a1 < 0 then (posternref02_Plain.j0 k l0 a1 true) else (posternref02_Plain.j0 k l0 a1 (decide (a1 ≥ (l0.length : Int))))) = some (r1, r2) := h
  clear h
  have HC3 := Aside0.mk H
  clear H
  go_enter Try.func30, Try.ntmps30
  go_upto_region 1 with (fail)
  go_cut [16] (fun v16 wc => ∃ (kq : Nat) (x16_2 : Bool), v16 = .bool x16_2 ∧ Aside0 (posternref02_Plain.j0 kq l0 a1 x16_2 = some (r1, r2)) ∧ Aside0 (kq ≤ k) ∧ Aside0 (Below w.heap.size w wc))
  case first =>
    have H := HC3.out
    clear HC3
    by_cases c4 : a1 < 0
    · rw [if_pos c4] at H
      have c4b0 : decide (a1 < 0) = true := decide_eq_true c4
      clear c4
      (first | rw [c4b0] | (simp only [i64_w, i32_w]; rw [c4b0]) | skip)
      have H' := Aside0.mk H
      clear H
      go_wp2
      go_meet
      case rel => exact ⟨_, (true), (by first | rfl | (simp; done) | (simp [*]; done)), H', ⟨by first | omega | exact Nat.le_refl _⟩, ⟨by repeat (first | (with_reducible first | exact HB.out | apply below_alloc | apply pw_below_drewN | apply below_drew1) | exact HB.out)⟩⟩
    · rw [if_neg c4] at H
      have c4b0 : decide (a1 < 0) = false := decide_eq_false c4
      clear c4
      (first | rw [c4b0] | (simp only [i64_w, i32_w]; rw [c4b0]) | skip)
      have H' := Aside0.mk H
      clear H
      go_wp2
      go_meet
      case rel => exact ⟨_, (decide (a1 ≥ (l0.length : Int))), (by first | rfl | (simp; done) | (simp [*]; done)), H', ⟨by first | omega | exact Nat.le_refl _⟩, ⟨by repeat (first | (with_reducible first | exact HB.out | apply below_alloc | apply pw_below_drewN | apply below_drew1) | exact HB.out)⟩⟩
  case rest =>
    clear HC3
    try clear p2
    try clear c3
    try clear c4
    try clear c4b0
    obtain ⟨kq, x16_2, rfl, HA, HJ2, HB⟩ := hcut
    cases kq with
    | zero => exact absurd HA.out (by simp [posternref02_Plain.j0])
    | succ kj2 =>
      have H := HA.out
      clear HA
      simp only [posternref02_Plain.j0] at H
      by_cases c5 : x16_2 = true
      · subst c5
        have H1 : (some (0, 2)) = some (r1, r2) := by rw [if_pos rfl] at H; exact H
        clear H
        have H := H1
        clear H1
        simp only [Option.some.injEq, Prod.mk.injEq] at H
        obtain ⟨rfl, rfl⟩ := H
        go_wp2
        go_ret2
        exact ⟨by first | rfl | (simp [errW_none, errW_some] <;> rfl) | (simp [*, errW_none, errW_some] <;> rfl), by repeat (first | (with_reducible first | exact HB.out | apply below_alloc | apply pw_below_drewN | apply below_drew1) | exact HB.out)⟩
      · replace c5 := Bool.eq_false_iff.mpr c5
        subst c5
        have H1 : (if 0 ≤ a1 then (if a1 < (l0.length : Int) then ((posternref02_Known.f kj2 (wrap64 ((rd_T24 l0 a1).f0))).bind fun t161 => (if t161 = true then ((posternref02_Uses.f kj2 (wrap64 ((rd_T24 l0 a1).f0))).bind fun bt162 => (if bt162.1 = true then (if ((rd_T24 l0 a1).f1) > 10 then (posternref02_Plain.j1 kj2 l0 a1 true ((rd_T24 l0 a1).f0) ((rd_T24 l0 a1).f1) ((rd_T24 l0 a1).f2) ((rd_T24 l0 a1).f3) ((rd_T24 l0 a1).f4)) else (if bt162.2.1 = true then (if ((rd_T24 l0 a1).f2) > 10 then (posternref02_Plain.j1 kj2 l0 a1 true ((rd_T24 l0 a1).f0) ((rd_T24 l0 a1).f1) ((rd_T24 l0 a1).f2) ((rd_T24 l0 a1).f3) ((rd_T24 l0 a1).f4)) else (if bt162.2.2.1 = true then (if bt162.2.2.2 = true then (posternref02_Plain.j1 kj2 l0 a1 false ((rd_T24 l0 a1).f0) ((rd_T24 l0 a1).f1) ((rd_T24 l0 a1).f2) ((rd_T24 l0 a1).f3) ((rd_T24 l0 a1).f4)) else (posternref02_Plain.j1 kj2 l0 a1 (((rd_T24 l0 a1).f4) != 0) ((rd_T24 l0 a1).f0) ((rd_T24 l0 a1).f1) ((rd_T24 l0 a1).f2) ((rd_T24 l0 a1).f3) ((rd_T24 l0 a1).f4))) else (if ((rd_T24 l0 a1).f3) = 0 then (if bt162.2.2.2 = true then (posternref02_Plain.j1 kj2 l0 a1 false ((rd_T24 l0 a1).f0) ((rd_T24 l0 a1).f1) ((rd_T24 l0 a1).f2) ((rd_T24 l0 a1).f3) ((rd_T24 l0 a1).f4)) else (posternref02_Plain.j1 kj2 l0 a1 (((rd_T24 l0 a1).f4) != 0) ((rd_T24 l0 a1).f0) ((rd_T24 l0 a1).f1) ((rd_T24 l0 a1).f2) ((rd_T24 l0 a1).f3) ((rd_T24 l0 a1).f4))) else (posternref02_Plain.j1 kj2 l0 a1 true ((rd_T24 l0 a1).f0) ((rd_T24 l0 a1).f1) ((rd_T24 l0 a1).f2) ((rd_T24 l0 a1).f3) ((rd_T24 l0 a1).f4))))) else (if ((rd_T24 l0 a1).f2) = 0 then (if bt162.2.2.1 = true then (if bt162.2.2.2 = true then (posternref02_Plain.j1 kj2 l0 a1 false ((rd_T24 l0 a1).f0) ((rd_T24 l0 a1).f1) ((rd_T24 l0 a1).f2) ((rd_T24 l0 a1).f3) ((rd_T24 l0 a1).f4)) else (posternref02_Plain.j1 kj2 l0 a1 (((rd_T24 l0 a1).f4) != 0) ((rd_T24 l0 a1).f0) ((rd_T24 l0 a1).f1) ((rd_T24 l0 a1).f2) ((rd_T24 l0 a1).f3) ((rd_T24 l0 a1).f4))) else (if ((rd_T24 l0 a1).f3) = 0 then (if bt162.2.2.2 = true then (posternref02_Plain.j1 kj2 l0 a1 false ((rd_T24 l0 a1).f0) ((rd_T24 l0 a1).f1) ((rd_T24 l0 a1).f2) ((rd_T24 l0 a1).f3) ((rd_T24 l0 a1).f4)) else (posternref02_Plain.j1 kj2 l0 a1 (((rd_T24 l0 a1).f4) != 0) ((rd_T24 l0 a1).f0) ((rd_T24 l0 a1).f1) ((rd_T24 l0 a1).f2) ((rd_T24 l0 a1).f3) ((rd_T24 l0 a1).f4))) else (posternref02_Plain.j1 kj2 l0 a1 true ((rd_T24 l0 a1).f0) ((rd_T24 l0 a1).f1) ((rd_T24 l0 a1).f2) ((rd_T24 l0 a1).f3) ((rd_T24 l0 a1).f4)))) else (posternref02_Plain.j1 kj2 l0 a1 true ((rd_T24 l0 a1).f0) ((rd_T24 l0 a1).f1) ((rd_T24 l0 a1).f2) ((rd_T24 l0 a1).f3) ((rd_T24 l0 a1).f4))))) else (if ((rd_T24 l0 a1).f1) = 0 then (if bt162.2.1 = true then (if ((rd_T24 l0 a1).f2) > 10 then (posternref02_Plain.j1 kj2 l0 a1 true ((rd_T24 l0 a1).f0) ((rd_T24 l0 a1).f1) ((rd_T24 l0 a1).f2) ((rd_T24 l0 a1).f3) ((rd_T24 l0 a1).f4)) else (if bt162.2.2.1 = true then (if bt162.2.2.2 = true then (posternref02_Plain.j1 kj2 l0 a1 false ((rd_T24 l0 a1).f0) ((rd_T24 l0 a1).f1) ((rd_T24 l0 a1).f2) ((rd_T24 l0 a1).f3) ((rd_T24 l0 a1).f4)) else (posternref02_Plain.j1 kj2 l0 a1 (((rd_T24 l0 a1).f4) != 0) ((rd_T24 l0 a1).f0) ((rd_T24 l0 a1).f1) ((rd_T24 l0 a1).f2) ((rd_T24 l0 a1).f3) ((rd_T24 l0 a1).f4))) else (if ((rd_T24 l0 a1).f3) = 0 then (if bt162.2.2.2 = true then (posternref02_Plain.j1 kj2 l0 a1 false ((rd_T24 l0 a1).f0) ((rd_T24 l0 a1).f1) ((rd_T24 l0 a1).f2) ((rd_T24 l0 a1).f3) ((rd_T24 l0 a1).f4)) else (posternref02_Plain.j1 kj2 l0 a1 (((rd_T24 l0 a1).f4) != 0) ((rd_T24 l0 a1).f0) ((rd_T24 l0 a1).f1) ((rd_T24 l0 a1).f2) ((rd_T24 l0 a1).f3) ((rd_T24 l0 a1).f4))) else (posternref02_Plain.j1 kj2 l0 a1 true ((rd_T24 l0 a1).f0) ((rd_T24 l0 a1).f1) ((rd_T24 l0 a1).f2) ((rd_T24 l0 a1).f3) ((rd_T24 l0 a1).f4))))) else (if ((rd_T24 l0 a1).f2) = 0 then (if bt162.2.2.1 = true then (if bt162.2.2.2 = true then (posternref02_Plain.j1 kj2 l0 a1 false ((rd_T24 l0 a1).f0) ((rd_T24 l0 a1).f1) ((rd_T24 l0 a1).f2) ((rd_T24 l0 a1).f3) ((rd_T24 l0 a1).f4)) else (posternref02_Plain.j1 kj2 l0 a1 (((rd_T24 l0 a1).f4) != 0) ((rd_T24 l0 a1).f0) ((rd_T24 l0 a1).f1) ((rd_T24 l0 a1).f2) ((rd_T24 l0 a1).f3) ((rd_T24 l0 a1).f4))) else (if ((rd_T24 l0 a1).f3) = 0 then (if bt162.2.2.2 = true then (posternref02_Plain.j1 kj2 l0 a1 false ((rd_T24 l0 a1).f0) ((rd_T24 l0 a1).f1) ((rd_T24 l0 a1).f2) ((rd_T24 l0 a1).f3) ((rd_T24 l0 a1).f4)) else (posternref02_Plain.j1 kj2 l0 a1 (((rd_T24 l0 a1).f4) != 0) ((rd_T24 l0 a1).f0) ((rd_T24 l0 a1).f1) ((rd_T24 l0 a1).f2) ((rd_T24 l0 a1).f3) ((rd_T24 l0 a1).f4))) else (posternref02_Plain.j1 kj2 l0 a1 true ((rd_T24 l0 a1).f0) ((rd_T24 l0 a1).f1) ((rd_T24 l0 a1).f2) ((rd_T24 l0 a1).f3) ((rd_T24 l0 a1).f4)))) else (posternref02_Plain.j1 kj2 l0 a1 true ((rd_T24 l0 a1).f0) ((rd_T24 l0 a1).f1) ((rd_T24 l0 a1).f2) ((rd_T24 l0 a1).f3) ((rd_T24 l0 a1).f4)))) else (posternref02_Plain.j1 kj2 l0 a1 true ((rd_T24 l0 a1).f0) ((rd_T24 l0 a1).f1) ((rd_T24 l0 a1).f2) ((rd_T24 l0 a1).f3) ((rd_T24 l0 a1).f4))))) else (some (0, 41)))) else (none)) else (none)) = some (r1, r2) := by rw [if_neg (show ¬ (false = true) by decide)] at H; exact H
        clear H
        have H := H1
        clear H1
        by_cases c6 : 0 ≤ a1
        · rw [if_pos c6] at H
          have c6b0 : decide (0 ≤ a1) = true := decide_eq_true c6
          clear c6
          by_cases c7 : a1 < (l0.length : Int)
          · rw [if_pos c7] at H
            have c7b0 : decide (a1 < (l0.length : Int)) = true := decide_eq_true c7
            clear c7
            replace H := Option.bind_eq_some_iff.mp H
            obtain ⟨t161, A80, H⟩ := H
            replace H : (if t161 = true then ((posternref02_Uses.f kj2 (wrap64 ((rd_T24 l0 a1).f0))).bind fun bt162 => (if bt162.1 = true then (if ((rd_T24 l0 a1).f1) > 10 then (posternref02_Plain.j1 kj2 l0 a1 true ((rd_T24 l0 a1).f0) ((rd_T24 l0 a1).f1) ((rd_T24 l0 a1).f2) ((rd_T24 l0 a1).f3) ((rd_T24 l0 a1).f4)) else (if bt162.2.1 = true then (if ((rd_T24 l0 a1).f2) > 10 then (posternref02_Plain.j1 kj2 l0 a1 true ((rd_T24 l0 a1).f0) ((rd_T24 l0 a1).f1) ((rd_T24 l0 a1).f2) ((rd_T24 l0 a1).f3) ((rd_T24 l0 a1).f4)) else (if bt162.2.2.1 = true then (if bt162.2.2.2 = true then (posternref02_Plain.j1 kj2 l0 a1 false ((rd_T24 l0 a1).f0) ((rd_T24 l0 a1).f1) ((rd_T24 l0 a1).f2) ((rd_T24 l0 a1).f3) ((rd_T24 l0 a1).f4)) else (posternref02_Plain.j1 kj2 l0 a1 (((rd_T24 l0 a1).f4) != 0) ((rd_T24 l0 a1).f0) ((rd_T24 l0 a1).f1) ((rd_T24 l0 a1).f2) ((rd_T24 l0 a1).f3) ((rd_T24 l0 a1).f4))) else (if ((rd_T24 l0 a1).f3) = 0 then (if bt162.2.2.2 = true then (posternref02_Plain.j1 kj2 l0 a1 false ((rd_T24 l0 a1).f0) ((rd_T24 l0 a1).f1) ((rd_T24 l0 a1).f2) ((rd_T24 l0 a1).f3) ((rd_T24 l0 a1).f4)) else (posternref02_Plain.j1 kj2 l0 a1 (((rd_T24 l0 a1).f4) != 0) ((rd_T24 l0 a1).f0) ((rd_T24 l0 a1).f1) ((rd_T24 l0 a1).f2) ((rd_T24 l0 a1).f3) ((rd_T24 l0 a1).f4))) else (posternref02_Plain.j1 kj2 l0 a1 true ((rd_T24 l0 a1).f0) ((rd_T24 l0 a1).f1) ((rd_T24 l0 a1).f2) ((rd_T24 l0 a1).f3) ((rd_T24 l0 a1).f4))))) else (if ((rd_T24 l0 a1).f2) = 0 then (if bt162.2.2.1 = true then (if bt162.2.2.2 = true then (posternref02_Plain.j1 kj2 l0 a1 false ((rd_T24 l0 a1).f0) ((rd_T24 l0 a1).f1) ((rd_T24 l0 a1).f2) ((rd_T24 l0 a1).f3) ((rd_T24 l0 a1).f4)) else (posternref02_Plain.j1 kj2 l0 a1 (((rd_T24 l0 a1).f4) != 0) ((rd_T24 l0 a1).f0) ((rd_T24 l0 a1).f1) ((rd_T24 l0 a1).f2) ((rd_T24 l0 a1).f3) ((rd_T24 l0 a1).f4))) else (if ((rd_T24 l0 a1).f3) = 0 then (if bt162.2.2.2 = true then (posternref02_Plain.j1 kj2 l0 a1 false ((rd_T24 l0 a1).f0) ((rd_T24 l0 a1).f1) ((rd_T24 l0 a1).f2) ((rd_T24 l0 a1).f3) ((rd_T24 l0 a1).f4)) else (posternref02_Plain.j1 kj2 l0 a1 (((rd_T24 l0 a1).f4) != 0) ((rd_T24 l0 a1).f0) ((rd_T24 l0 a1).f1) ((rd_T24 l0 a1).f2) ((rd_T24 l0 a1).f3) ((rd_T24 l0 a1).f4))) else (posternref02_Plain.j1 kj2 l0 a1 true ((rd_T24 l0 a1).f0) ((rd_T24 l0 a1).f1) ((rd_T24 l0 a1).f2) ((rd_T24 l0 a1).f3) ((rd_T24 l0 a1).f4)))) else (posternref02_Plain.j1 kj2 l0 a1 true ((rd_T24 l0 a1).f0) ((rd_T24 l0 a1).f1) ((rd_T24 l0 a1).f2) ((rd_T24 l0 a1).f3) ((rd_T24 l0 a1).f4))))) else (if ((rd_T24 l0 a1).f1) = 0 then (if bt162.2.1 = true then (if ((rd_T24 l0 a1).f2) > 10 then (posternref02_Plain.j1 kj2 l0 a1 true ((rd_T24 l0 a1).f0) ((rd_T24 l0 a1).f1) ((rd_T24 l0 a1).f2) ((rd_T24 l0 a1).f3) ((rd_T24 l0 a1).f4)) else (if bt162.2.2.1 = true then (if bt162.2.2.2 = true then (posternref02_Plain.j1 kj2 l0 a1 false ((rd_T24 l0 a1).f0) ((rd_T24 l0 a1).f1) ((rd_T24 l0 a1).f2) ((rd_T24 l0 a1).f3) ((rd_T24 l0 a1).f4)) else (posternref02_Plain.j1 kj2 l0 a1 (((rd_T24 l0 a1).f4) != 0) ((rd_T24 l0 a1).f0) ((rd_T24 l0 a1).f1) ((rd_T24 l0 a1).f2) ((rd_T24 l0 a1).f3) ((rd_T24 l0 a1).f4))) else (if ((rd_T24 l0 a1).f3) = 0 then (if bt162.2.2.2 = true then (posternref02_Plain.j1 kj2 l0 a1 false ((rd_T24 l0 a1).f0) ((rd_T24 l0 a1).f1) ((rd_T24 l0 a1).f2) ((rd_T24 l0 a1).f3) ((rd_T24 l0 a1).f4)) else (posternref02_Plain.j1 kj2 l0 a1 (((rd_T24 l0 a1).f4) != 0) ((rd_T24 l0 a1).f0) ((rd_T24 l0 a1).f1) ((rd_T24 l0 a1).f2) ((rd_T24 l0 a1).f3) ((rd_T24 l0 a1).f4))) else (posternref02_Plain.j1 kj2 l0 a1 true ((rd_T24 l0 a1).f0) ((rd_T24 l0 a1).f1) ((rd_T24 l0 a1).f2) ((rd_T24 l0 a1).f3) ((rd_T24 l0 a1).f4))))) else (if ((rd_T24 l0 a1).f2) = 0 then (if bt162.2.2.1 = true then (if bt162.2.2.2 = true then (posternref02_Plain.j1 kj2 l0 a1 false ((rd_T24 l0 a1).f0) ((rd_T24 l0 a1).f1) ((rd_T24 l0 a1).f2) ((rd_T24 l0 a1).f3) ((rd_T24 l0 a1).f4)) else (posternref02_Plain.j1 kj2 l0 a1 (((rd_T24 l0 a1).f4) != 0) ((rd_T24 l0 a1).f0) ((rd_T24 l0 a1).f1) ((rd_T24 l0 a1).f2) ((rd_T24 l0 a1).f3) ((rd_T24 l0 a1).f4))) else (if ((rd_T24 l0 a1).f3) = 0 then (if bt162.2.2.2 = true then (posternref02_Plain.j1 kj2 l0 a1 false ((rd_T24 l0 a1).f0) ((rd_T24 l0 a1).f1) ((rd_T24 l0 a1).f2) ((rd_T24 l0 a1).f3) ((rd_T24 l0 a1).f4)) else (posternref02_Plain.j1 kj2 l0 a1 (((rd_T24 l0 a1).f4) != 0) ((rd_T24 l0 a1).f0) ((rd_T24 l0 a1).f1) ((rd_T24 l0 a1).f2) ((rd_T24 l0 a1).f3) ((rd_T24 l0 a1).f4))) else (posternref02_Plain.j1 kj2 l0 a1 true ((rd_T24 l0 a1).f0) ((rd_T24 l0 a1).f1) ((rd_T24 l0 a1).f2) ((rd_T24 l0 a1).f3) ((rd_T24 l0 a1).f4)))) else (posternref02_Plain.j1 kj2 l0 a1 true ((rd_T24 l0 a1).f0) ((rd_T24 l0 a1).f1) ((rd_T24 l0 a1).f2) ((rd_T24 l0 a1).f3) ((rd_T24 l0 a1).f4)))) else (posternref02_Plain.j1 kj2 l0 a1 true ((rd_T24 l0 a1).f0) ((rd_T24 l0 a1).f1) ((rd_T24 l0 a1).f2) ((rd_T24 l0 a1).f3) ((rd_T24 l0 a1).f4))))) else (some (0, 41))) = some (r1, r2) := H
            have A8 := Aside0.mk A80
            clear A80
            by_cases c9 : t161 = true
            · subst c9
              have H1 : ((posternref02_Uses.f kj2 (wrap64 ((rd_T24 l0 a1).f0))).bind fun bt162 => (if bt162.1 = true then (if ((rd_T24 l0 a1).f1) > 10 then (posternref02_Plain.j1 kj2 l0 a1 true ((rd_T24 l0 a1).f0) ((rd_T24 l0 a1).f1) ((rd_T24 l0 a1).f2) ((rd_T24 l0 a1).f3) ((rd_T24 l0 a1).f4)) else (if bt162.2.1 = true then (if ((rd_T24 l0 a1).f2) > 10 then (posternref02_Plain.j1 kj2 l0 a1 true ((rd_T24 l0 a1).f0) ((rd_T24 l0 a1).f1) ((rd_T24 l0 a1).f2) ((rd_T24 l0 a1).f3) ((rd_T24 l0 a1).f4)) else (if bt162.2.2.1 = true then (if bt162.2.2.2 = true then (posternref02_Plain.j1 kj2 l0 a1 false ((rd_T24 l0 a1).f0) ((rd_T24 l0 a1).f1) ((rd_T24 l0 a1).f2) ((rd_T24 l0 a1).f3) ((rd_T24 l0 a1).f4)) else (posternref02_Plain.j1 kj2 l0 a1 (((rd_T24 l0 a1).f4) != 0) ((rd_T24 l0 a1).f0) ((rd_T24 l0 a1).f1) ((rd_T24 l0 a1).f2) ((rd_T24 l0 a1).f3) ((rd_T24 l0 a1).f4))) else (if ((rd_T24 l0 a1).f3) = 0 then (if bt162.2.2.2 = true then (posternref02_Plain.j1 kj2 l0 a1 false ((rd_T24 l0 a1).f0) ((rd_T24 l0 a1).f1) ((rd_T24 l0 a1).f2) ((rd_T24 l0 a1).f3) ((rd_T24 l0 a1).f4)) else (posternref02_Plain.j1 kj2 l0 a1 (((rd_T24 l0 a1).f4) != 0) ((rd_T24 l0 a1).f0) ((rd_T24 l0 a1).f1) ((rd_T24 l0 a1).f2) ((rd_T24 l0 a1).f3) ((rd_T24 l0 a1).f4))) else (posternref02_Plain.j1 kj2 l0 a1 true ((rd_T24 l0 a1).f0) ((rd_T24 l0 a1).f1) ((rd_T24 l0 a1).f2) ((rd_T24 l0 a1).f3) ((rd_T24 l0 a1).f4))))) else (if ((rd_T24 l0 a1).f2) = 0 then (if bt162.2.2.1 = true then (if bt162.2.2.2 = true then (posternref02_Plain.j1 kj2 l0 a1 false ((rd_T24 l0 a1).f0) ((rd_T24 l0 a1).f1) ((rd_T24 l0 a1).f2) ((rd_T24 l0 a1).f3) ((rd_T24 l0 a1).f4)) else (posternref02_Plain.j1 kj2 l0 a1 (((rd_T24 l0 a1).f4) != 0) ((rd_T24 l0 a1).f0) ((rd_T24 l0 a1).f1) ((rd_T24 l0 a1).f2) ((rd_T24 l0 a1).f3) ((rd_T24 l0 a1).f4))) else (if ((rd_T24 l0 a1).f3) = 0 then (if bt162.2.2.2 = true then (posternref02_Plain.j1 kj2 l0 a1 false ((rd_T24 l0 a1).f0) ((rd_T24 l0 a1).f1) ((rd_T24 l0 a1).f2) ((rd_T24 l0 a1).f3) ((rd_T24 l0 a1).f4)) else (posternref02_Plain.j1 kj2 l0 a1 (((rd_T24 l0 a1).f4) != 0) ((rd_T24 l0 a1).f0) ((rd_T24 l0 a1).f1) ((rd_T24 l0 a1).f2) ((rd_T24 l0 a1).f3) ((rd_T24 l0 a1).f4))) else (posternref02_Plain.j1 kj2 l0 a1 true ((rd_T24 l0 a1).f0) ((rd_T24 l0 a1).f1) ((rd_T24 l0 a1).f2) ((rd_T24 l0 a1).f3) ((rd_T24 l0 a1).f4)))) else (posternref02_Plain.j1 kj2 l0 a1 true ((rd_T24 l0 a1).f0) ((rd_T24 l0 a1).f1) ((rd_T24 l0 a1).f2) ((rd_T24 l0 a1).f3) ((rd_T24 l0 a1).f4))))) else (if ((rd_T24 l0 a1).f1) = 0 then (if bt162.2.1 = true then (if ((rd_T24 l0 a1).f2) > 10 then (posternref02_Plain.j1 kj2 l0 a1 true ((rd_T24 l0 a1).f0) ((rd_T24 l0 a1).f1) ((rd_T24 l0 a1).f2) ((rd_T24 l0 a1).f3) ((rd_T24 l0 a1).f4)) else (if bt162.2.2.1 = true then (if bt162.2.2.2 = true then (posternref02_Plain.j1 kj2 l0 a1 false ((rd_T24 l0 a1).f0) ((rd_T24 l0 a1).f1) ((rd_T24 l0 a1).f2) ((rd_T24 l0 a1).f3) ((rd_T24 l0 a1).f4)) else (posternref02_Plain.j1 kj2 l0 a1 (((rd_T24 l0 a1).f4) != 0) ((rd_T24 l0 a1).f0) ((rd_T24 l0 a1).f1) ((rd_T24 l0 a1).f2) ((rd_T24 l0 a1).f3) ((rd_T24 l0 a1).f4))) else (if ((rd_T24 l0 a1).f3) = 0 then (if bt162.2.2.2 = true then (posternref02_Plain.j1 kj2 l0 a1 false ((rd_T24 l0 a1).f0) ((rd_T24 l0 a1).f1) ((rd_T24 l0 a1).f2) ((rd_T24 l0 a1).f3) ((rd_T24 l0 a1).f4)) else (posternref02_Plain.j1 kj2 l0 a1 (((rd_T24 l0 a1).f4) != 0) ((rd_T24 l0 a1).f0) ((rd_T24 l0 a1).f1) ((rd_T24 l0 a1).f2) ((rd_T24 l0 a1).f3) ((rd_T24 l0 a1).f4))) else (posternref02_Plain.j1 kj2 l0 a1 true ((rd_T24 l0 a1).f0) ((rd_T24 l0 a1).f1) ((rd_T24 l0 a1).f2) ((rd_T24 l0 a1).f3) ((rd_T24 l0 a1).f4))))) else (if ((rd_T24 l0 a1).f2) = 0 then (if bt162.2.2.1 = true then (if bt162.2.2.2 = true then (posternref02_Plain.j1 kj2 l0 a1 false ((rd_T24 l0 a1).f0) ((rd_T24 l0 a1).f1) ((rd_T24 l0 a1).f2) ((rd_T24 l0 a1).f3) ((rd_T24 l0 a1).f4)) else (posternref02_Plain.j1 kj2 l0 a1 (((rd_T24 l0 a1).f4) != 0) ((rd_T24 l0 a1).f0) ((rd_T24 l0 a1).f1) ((rd_T24 l0 a1).f2) ((rd_T24 l0 a1).f3) ((rd_T24 l0 a1).f4))) else (if ((rd_T24 l0 a1).f3) = 0 then (if bt162.2.2.2 = true then (posternref02_Plain.j1 kj2 l0 a1 false ((rd_T24 l0 a1).f0) ((rd_T24 l0 a1).f1) ((rd_T24 l0 a1).f2) ((rd_T24 l0 a1).f3) ((rd_T24 l0 a1).f4)) else (posternref02_Plain.j1 kj2 l0 a1 (((rd_T24 l0 a1).f4) != 0) ((rd_T24 l0 a1).f0) ((rd_T24 l0 a1).f1) ((rd_T24 l0 a1).f2) ((rd_T24 l0 a1).f3) ((rd_T24 l0 a1).f4))) else (posternref02_Plain.j1 kj2 l0 a1 true ((rd_T24 l0 a1).f0) ((rd_T24 l0 a1).f1) ((rd_T24 l0 a1).f2) ((rd_T24 l0 a1).f3) ((rd_T24 l0 a1).f4)))) else (posternref02_Plain.j1 kj2 l0 a1 true ((rd_T24 l0 a1).f0) ((rd_T24 l0 a1).f1) ((rd_T24 l0 a1).f2) ((rd_T24 l0 a1).f3) ((rd_T24 l0 a1).f4)))) else (posternref02_Plain.j1 kj2 l0 a1 true ((rd_T24 l0 a1).f0) ((rd_T24 l0 a1).f1) ((rd_T24 l0 a1).f2) ((rd_T24 l0 a1).f3) ((rd_T24 l0 a1).f4))))) = some (r1, r2) := by rw [if_pos rfl] at H; exact H
              clear H
              have H := H1
              clear H1
              replace H := Option.bind_eq_some_iff.mp H
              obtain ⟨⟨t162, t163, t164, t165⟩, A100, H⟩ := H
              replace H : (if t162 = true then (if ((rd_T24 l0 a1).f1) > 10 then (posternref02_Plain.j1 kj2 l0 a1 true ((rd_T24 l0 a1).f0) ((rd_T24 l0 a1).f1) ((rd_T24 l0 a1).f2) ((rd_T24 l0 a1).f3) ((rd_T24 l0 a1).f4)) else (if t163 = true then (if ((rd_T24 l0 a1).f2) > 10 then (posternref02_Plain.j1 kj2 l0 a1 true ((rd_T24 l0 a1).f0) ((rd_T24 l0 a1).f1) ((rd_T24 l0 a1).f2) ((rd_T24 l0 a1).f3) ((rd_T24 l0 a1).f4)) else (if t164 = true then (if t165 = true then (posternref02_Plain.j1 kj2 l0 a1 false ((rd_T24 l0 a1).f0) ((rd_T24 l0 a1).f1) ((rd_T24 l0 a1).f2) ((rd_T24 l0 a1).f3) ((rd_T24 l0 a1).f4)) else (posternref02_Plain.j1 kj2 l0 a1 (((rd_T24 l0 a1).f4) != 0) ((rd_T24 l0 a1).f0) ((rd_T24 l0 a1).f1) ((rd_T24 l0 a1).f2) ((rd_T24 l0 a1).f3) ((rd_T24 l0 a1).f4))) else (if ((rd_T24 l0 a1).f3) = 0 then (if t165 = true then (posternref02_Plain.j1 kj2 l0 a1 false ((rd_T24 l0 a1).f0) ((rd_T24 l0 a1).f1) ((rd_T24 l0 a1).f2) ((rd_T24 l0 a1).f3) ((rd_T24 l0 a1).f4)) else (posternref02_Plain.j1 kj2 l0 a1 (((rd_T24 l0 a1).f4) != 0) ((rd_T24 l0 a1).f0) ((rd_T24 l0 a1).f1) ((rd_T24 l0 a1).f2) ((rd_T24 l0 a1).f3) ((rd_T24 l0 a1).f4))) else (posternref02_Plain.j1 kj2 l0 a1 true ((rd_T24 l0 a1).f0) ((rd_T24 l0 a1).f1) ((rd_T24 l0 a1).f2) ((rd_T24 l0 a1).f3) ((rd_T24 l0 a1).f4))))) else (if ((rd_T24 l0 a1).f2) = 0 then (if t164 = true then (if t165 = true then (posternref02_Plain.j1 kj2 l0 a1 false ((rd_T24 l0 a1).f0) ((rd_T24 l0 a1).f1) ((rd_T24 l0 a1).f2) ((rd_T24 l0 a1).f3) ((rd_T24 l0 a1).f4)) else (posternref02_Plain.j1 kj2 l0 a1 (((rd_T24 l0 a1).f4) != 0) ((rd_T24 l0 a1).f0) ((rd_T24 l0 a1).f1) ((rd_T24 l0 a1).f2) ((rd_T24 l0 a1).f3) ((rd_T24 l0 a1).f4))) else (if ((rd_T24 l0 a1).f3) = 0 then (if t165 = true then (posternref02_Plain.j1 kj2 l0 a1 false ((rd_T24 l0 a1).f0) ((rd_T24 l0 a1).f1) ((rd_T24 l0 a1).f2) ((rd_T24 l0 a1).f3) ((rd_T24 l0 a1).f4)) else (posternref02_Plain.j1 kj2 l0 a1 (((rd_T24 l0 a1).f4) != 0) ((rd_T24 l0 a1).f0) ((rd_T24 l0 a1).f1) ((rd_T24 l0 a1).f2) ((rd_T24 l0 a1).f3) ((rd_T24 l0 a1).f4))) else (posternref02_Plain.j1 kj2 l0 a1 true ((rd_T24 l0 a1).f0) ((rd_T24 l0 a1).f1) ((rd_T24 l0 a1).f2) ((rd_T24 l0 a1).f3) ((rd_T24 l0 a1).f4)))) else (posternref02_Plain.j1 kj2 l0 a1 true ((rd_T24 l0 a1).f0) ((rd_T24 l0 a1).f1) ((rd_T24 l0 a1).f2) ((rd_T24 l0 a1).f3) ((rd_T24 l0 a1).f4))))) else (if ((rd_T24 l0 a1).f1) = 0 then (if t163 = true then (if ((rd_T24 l0 a1).f2) > 10 then (posternref02_Plain.j1 kj2 l0 a1 true ((rd_T24 l0 a1).f0) ((rd_T24 l0 a1).f1) ((rd_T24 l0 a1).f2) ((rd_T24 l0 a1).f3) ((rd_T24 l0 a1).f4)) else (if t164 = true then (if t165 = true then (posternref02_Plain.j1 kj2 l0 a1 false ((rd_T24 l0 a1).f0) ((rd_T24 l0 a1).f1) ((rd_T24 l0 a1).f2) ((rd_T24 l0 a1).f3) ((rd_T24 l0 a1).f4)) else (posternref02_Plain.j1 kj2 l0 a1 (((rd_T24 l0 a1).f4) != 0) ((rd_T24 l0 a1).f0) ((rd_T24 l0 a1).f1) ((rd_T24 l0 a1).f2) ((rd_T24 l0 a1).f3) ((rd_T24 l0 a1).f4))) else (if ((rd_T24 l0 a1).f3) = 0 then (if t165 = true then (posternref02_Plain.j1 kj2 l0 a1 false ((rd_T24 l0 a1).f0) ((rd_T24 l0 a1).f1) ((rd_T24 l0 a1).f2) ((rd_T24 l0 a1).f3) ((rd_T24 l0 a1).f4)) else (posternref02_Plain.j1 kj2 l0 a1 (((rd_T24 l0 a1).f4) != 0) ((rd_T24 l0 a1).f0) ((rd_T24 l0 a1).f1) ((rd_T24 l0 a1).f2) ((rd_T24 l0 a1).f3) ((rd_T24 l0 a1).f4))) else (posternref02_Plain.j1 kj2 l0 a1 true ((rd_T24 l0 a1).f0) ((rd_T24 l0 a1).f1) ((rd_T24 l0 a1).f2) ((rd_T24 l0 a1).f3) ((rd_T24 l0 a1).f4))))) else (if ((rd_T24 l0 a1).f2) = 0 then (if t164 = true then (if t165 = true then (posternref02_Plain.j1 kj2 l0 a1 false ((rd_T24 l0 a1).f0) ((rd_T24 l0 a1).f1) ((rd_T24 l0 a1).f2) ((rd_T24 l0 a1).f3) ((rd_T24 l0 a1).f4)) else (posternref02_Plain.j1 kj2 l0 a1 (((rd_T24 l0 a1).f4) != 0) ((rd_T24 l0 a1).f0) ((rd_T24 l0 a1).f1) ((rd_T24 l0 a1).f2) ((rd_T24 l0 a1).f3) ((rd_T24 l0 a1).f4))) else (if ((rd_T24 l0 a1).f3) = 0 then (if t165 = true then (posternref02_Plain.j1 kj2 l0 a1 false ((rd_T24 l0 a1).f0) ((rd_T24 l0 a1).f1) ((rd_T24 l0 a1).f2) ((rd_T24 l0 a1).f3) ((rd_T24 l0 a1).f4)) else (posternref02_Plain.j1 kj2 l0 a1 (((rd_T24 l0 a1).f4) != 0) ((rd_T24 l0 a1).f0) ((rd_T24 l0 a1).f1) ((rd_T24 l0 a1).f2) ((rd_T24 l0 a1).f3) ((rd_T24 l0 a1).f4))) else (posternref02_Plain.j1 kj2 l0 a1 true ((rd_T24 l0 a1).f0) ((rd_T24 l0 a1).f1) ((rd_T24 l0 a1).f2) ((rd_T24 l0 a1).f3) ((rd_T24 l0 a1).f4)))) else (posternref02_Plain.j1 kj2 l0 a1 true ((rd_T24 l0 a1).f0) ((rd_T24 l0 a1).f1) ((rd_T24 l0 a1).f2) ((rd_T24 l0 a1).f3) ((rd_T24 l0 a1).f4)))) else (posternref02_Plain.j1 kj2 l0 a1 true ((rd_T24 l0 a1).f0) ((rd_T24 l0 a1).f1) ((rd_T24 l0 a1).f2) ((rd_T24 l0 a1).f3) ((rd_T24 l0 a1).f4)))) = some (r1, r2) := H
              have A10 := Aside0.mk A100
              clear A100
              have HC11 := Aside0.mk H
              clear H
              have p159 : 0 ≤ (a1 : Int) := of_decide_eq_true (by first | (with_reducible assumption) | assumption)
              have q159 : a1 < (l0.length : Int) := of_decide_eq_true (by first | (with_reducible assumption) | assumption)
              obtain ⟨ad159, e159, hx159_0, hx159_1, hx159_2, hx159_3, hx159_4⟩ := at_T24 HR0.out a1 p159 q159
              cases e159
              replace hx159_0 := (HB.out.cell (World.block_lt_of_cell? w _ hx159_0)).trans hx159_0
              replace hx159_1 := (HB.out.cell (World.block_lt_of_cell? w _ hx159_1)).trans hx159_1
              replace hx159_2 := (HB.out.cell (World.block_lt_of_cell? w _ hx159_2)).trans hx159_2
              replace hx159_3 := (HB.out.cell (World.block_lt_of_cell? w _ hx159_3)).trans hx159_3
              replace hx159_4 := (HB.out.cell (World.block_lt_of_cell? w _ hx159_4)).trans hx159_4
              replace p159 := eq_true p159
              replace q159 := eq_true q159
              go_upto_region 7 with (first | ((with_reducible refine gate_dst (N := 6) rfl ?_); (try (refine gate_guard (by rfl) ?_; dsimp only)); refine box_event ?hg (N := 6) ?hd (cs := #[.int .u8 0, .int .u8 0, .int .u8 0, .int .i16 0, .int .i32 0]) (t := 24) ?hr ?_; (case hd => rfl); (case hg => rfl); (case hr => first | (go_simp; done) | (go_simp; rfl)); intro gb160 hg w12 hbox hb; have n0_ := Aside0.mk (below_step (by repeat (first | (with_reducible first | exact HB.out | apply below_alloc | apply pw_below_drewN | apply below_drew1) | exact HB.out)) hb); have n1_ := Aside0.mk (hbox); have n2_ := Aside0.mk ((by rw [hg]; exact (below_size (by repeat (first | (with_reducible first | exact HB.out | apply below_alloc | apply pw_below_drewN | apply below_drew1) | exact HB.out))) : w.heap.size ≤ gb160)); have n3_ := Aside0.mk ((by rw [hg]; exact (below_size (by repeat (first | (with_reducible first | exact HB.out | apply below_alloc | apply pw_below_drewN | apply below_drew1) | exact HB.out))) : w.heap.size ≤ gb160)); clear HB; have HB := n0_; have BK160 := n1_; have GW160 := n2_; have GE160 := n3_; clear n0_ n1_ n2_ n3_; clear hb hbox hg; have hcz13_0 : w12.cell? ⟨gb160, 0, none⟩ = some (.int .u8 0) := (blk_cell BK160.out 0).trans rfl; have hcz13_1 : w12.cell? ⟨gb160, 1, none⟩ = some (.int .u8 0) := (blk_cell BK160.out 1).trans rfl; have hcz13_2 : w12.cell? ⟨gb160, 2, none⟩ = some (.int .u8 0) := (blk_cell BK160.out 2).trans rfl; have hcz13_3 : w12.cell? ⟨gb160, 3, none⟩ = some (.int .i16 0) := (blk_cell BK160.out 3).trans rfl; have hcz13_4 : w12.cell? ⟨gb160, 4, none⟩ = some (.int .i32 0) := (blk_cell BK160.out 4).trans rfl; have hfz13_0 := blk_frozen BK160.out 0; have hfz13_1 := blk_frozen BK160.out 1; have hfz13_2 := blk_frozen BK160.out 2; have hfz13_3 := blk_frozen BK160.out 3; have hfz13_4 := blk_frozen BK160.out 4) | ((with_reducible refine gate_callee (f := 18) rfl ?_); refine goesL_ (some 24) rfl rfl Try.func18 (by kernel_rfl) rfl #[.int .i64 (wrap64 ((rd_T24 l0 a1).f0))] rfl (by (try simp only [List.map_toArray, List.map_cons, List.map_nil]); first | done | rfl | (simp only [List.length_drop, List.length_take]; rfl)) ?_; (with_reducible refine (posternref02_Known.calls kj2 (wrap64 ((rd_T24 l0 a1).f0)) true _ A8.out).mono ?_); rintro e w' ⟨rfl, ⟨nd, rfl⟩⟩; refine ⟨_, rfl, ?_⟩) | ((with_reducible refine gate_callee (f := 44) rfl ?_); refine goesL_ (some 29) rfl rfl Try.func44 (by kernel_rfl) rfl #[.int .i64 (wrap64 ((rd_T24 l0 a1).f0))] rfl (by (try simp only [List.map_toArray, List.map_cons, List.map_nil]); first | done | rfl | (simp only [List.length_drop, List.length_take]; rfl)) ?_; (with_reducible refine (posternref02_Uses.calls kj2 (wrap64 ((rd_T24 l0 a1).f0)) t162 t163 t164 t165 _ A10.out).mono ?_); rintro e w14 ⟨rfl, hb⟩; refine ⟨_, rfl, ?_⟩; have n0_ := Aside0.mk (blk_below (g := gb160) (o := .cells #[.int .u8 ((rd_T24 l0 a1).f0), .int .u8 ((rd_T24 l0 a1).f1), .int .u8 ((rd_T24 l0 a1).f2), .int .i16 ((rd_T24 l0 a1).f3), .int .i32 ((rd_T24 l0 a1).f4)] 24 (0, 0)) (by (with_reducible repeat (first | refine blk_drewN ?_ _ | refine blk_drew ?_ | refine blk_alloc ?_ _)); refine blk_put (cs := #[.int .u8 ((rd_T24 l0 a1).f0), .int .u8 ((rd_T24 l0 a1).f1), .int .u8 ((rd_T24 l0 a1).f2), .int .i16 ((rd_T24 l0 a1).f3), .int .i32 0]) ?_ 4 _ rfl; (with_reducible repeat (first | refine blk_drewN ?_ _ | refine blk_drew ?_ | refine blk_alloc ?_ _)); refine blk_put (cs := #[.int .u8 ((rd_T24 l0 a1).f0), .int .u8 ((rd_T24 l0 a1).f1), .int .u8 ((rd_T24 l0 a1).f2), .int .i16 0, .int .i32 0]) ?_ 3 _ rfl; (with_reducible repeat (first | refine blk_drewN ?_ _ | refine blk_drew ?_ | refine blk_alloc ?_ _)); refine blk_put (cs := #[.int .u8 ((rd_T24 l0 a1).f0), .int .u8 ((rd_T24 l0 a1).f1), .int .u8 0, .int .i16 0, .int .i32 0]) ?_ 2 _ rfl; (with_reducible repeat (first | refine blk_drewN ?_ _ | refine blk_drew ?_ | refine blk_alloc ?_ _)); refine blk_put (cs := #[.int .u8 ((rd_T24 l0 a1).f0), .int .u8 0, .int .u8 0, .int .i16 0, .int .i32 0]) ?_ 1 _ rfl; (with_reducible repeat (first | refine blk_drewN ?_ _ | refine blk_drew ?_ | refine blk_alloc ?_ _)); refine blk_put (cs := #[.int .u8 0, .int .u8 0, .int .u8 0, .int .i16 0, .int .i32 0]) ?_ 0 _ rfl; (with_reducible repeat (first | refine blk_drewN ?_ _ | refine blk_drew ?_ | refine blk_alloc ?_ _)); exact BK160.out) hb); have n1_ := Aside0.mk (below_step (by repeat (first | (with_reducible first | exact HB.out | apply below_alloc | apply pw_below_drewN | apply below_drew1 | refine below_set ?_ GE160.out) | exact HB.out)) hb); clear BK160; clear HB; have BK160 := n0_; have HB := n1_; clear n0_ n1_; (try clear hb); (try clear hb2); (try clear hk); (try clear hi)) | ((with_reducible refine gate_dst (N := 7) rfl ?_); (try (refine gate_guard (by rfl) ?_; dsimp only)); refine box_event ?hg (N := 7) ?hd (cs := #[.bool false, .bool false, .bool false, .bool false]) (t := 76) ?hr ?_; (case hd => rfl); (case hg => rfl); (case hr => first | (go_simp; done) | (go_simp; rfl)); intro gb166 hg w15 hbox hb; have n0_ := Aside0.mk (blk_below (g := gb160) (o := .cells #[.int .u8 ((rd_T24 l0 a1).f0), .int .u8 ((rd_T24 l0 a1).f1), .int .u8 ((rd_T24 l0 a1).f2), .int .i16 ((rd_T24 l0 a1).f3), .int .i32 ((rd_T24 l0 a1).f4)] 24 (0, 0)) (by (with_reducible repeat (first | refine blk_drewN ?_ _ | refine blk_drew ?_ | refine blk_alloc ?_ _)); exact BK160.out) hb); have n1_ := Aside0.mk (below_step (by repeat (first | (with_reducible first | exact HB.out | apply below_alloc | apply pw_below_drewN | apply below_drew1 | refine below_set ?_ GE160.out) | exact HB.out)) hb); have n2_ := Aside0.mk (hbox); have n3_ := Aside0.mk ((by rw [hg]; exact (below_size (by repeat (first | (with_reducible first | exact HB.out | apply below_alloc | apply pw_below_drewN | apply below_drew1 | refine below_set ?_ GE160.out) | exact HB.out))) : w.heap.size ≤ gb166)); have n4_ := Aside0.mk ((by rw [hg]; exact (below_size (by repeat (first | (with_reducible first | exact HB.out | apply below_alloc | apply pw_below_drewN | apply below_drew1 | refine below_set ?_ GE160.out) | exact HB.out))) : w.heap.size ≤ gb166)); have n5_ := Aside0.mk ((by rw [hg]; exact Nat.ne_of_lt (blk_lt (g := gb160) (o := .cells #[.int .u8 ((rd_T24 l0 a1).f0), .int .u8 ((rd_T24 l0 a1).f1), .int .u8 ((rd_T24 l0 a1).f2), .int .i16 ((rd_T24 l0 a1).f3), .int .i32 ((rd_T24 l0 a1).f4)] 24 (0, 0)) (by (with_reducible repeat (first | refine blk_drewN ?_ _ | refine blk_drew ?_ | refine blk_alloc ?_ _)); exact BK160.out)) : gb160 ≠ gb166)); have n6_ := Aside0.mk ((by rw [hg]; exact Nat.ne_of_gt (blk_lt (g := gb160) (o := .cells #[.int .u8 ((rd_T24 l0 a1).f0), .int .u8 ((rd_T24 l0 a1).f1), .int .u8 ((rd_T24 l0 a1).f2), .int .i16 ((rd_T24 l0 a1).f3), .int .i32 ((rd_T24 l0 a1).f4)] 24 (0, 0)) (by (with_reducible repeat (first | refine blk_drewN ?_ _ | refine blk_drew ?_ | refine blk_alloc ?_ _)); exact BK160.out)) : gb166 ≠ gb160)); clear BK160; clear HB; have BK160 := n0_; have HB := n1_; have BK166 := n2_; have GW166 := n3_; have GE166 := n4_; have NB160_166 := n5_; have NB166_160 := n6_; clear n0_ n1_ n2_ n3_ n4_ n5_ n6_; clear hb hbox hg; have hnb16 := NB166_160.out; have hnc16 := NB160_166.out; have hcz17_0 : w15.cell? ⟨gb166, 0, none⟩ = some (.bool false) := (blk_cell BK166.out 0).trans rfl; have hcz17_1 : w15.cell? ⟨gb166, 1, none⟩ = some (.bool false) := (blk_cell BK166.out 1).trans rfl; have hcz17_2 : w15.cell? ⟨gb166, 2, none⟩ = some (.bool false) := (blk_cell BK166.out 2).trans rfl; have hcz17_3 : w15.cell? ⟨gb166, 3, none⟩ = some (.bool false) := (blk_cell BK166.out 3).trans rfl; have hfz17_0 := blk_frozen BK166.out 0; have hfz17_1 := blk_frozen BK166.out 1; have hfz17_2 := blk_frozen BK166.out 2; have hfz17_3 := blk_frozen BK166.out 3))
              (try simp only [Act.put, List.setIfInBounds_toArray, List.set_cons_zero, List.set_cons_succ])
              go_cut [85] (fun v85 wc => ∃ (kq : Nat) (x85_10 : Bool), v85 = .bool x85_10 ∧ Aside0 (posternref02_Plain.j1 kq l0 a1 x85_10 ((rd_T24 l0 a1).f0) ((rd_T24 l0 a1).f1) ((rd_T24 l0 a1).f2) ((rd_T24 l0 a1).f3) ((rd_T24 l0 a1).f4) = some (r1, r2)) ∧ Aside0 (kq ≤ kj2) ∧ Aside0 (wc.heap[gb160]? = some (.cells #[.int .u8 ((rd_T24 l0 a1).f0), .int .u8 ((rd_T24 l0 a1).f1), .int .u8 ((rd_T24 l0 a1).f2), .int .i16 ((rd_T24 l0 a1).f3), .int .i32 ((rd_T24 l0 a1).f4)] 24 (0, 0))) ∧ Aside0 (wc.heap[gb166]? = some (.cells #[.bool t162, .bool t163, .bool t164, .bool t165] 76 (0, 0))) ∧ Aside0 (Below w.heap.size w wc))
              case first =>
                have H := HC11.out
                clear HC11
                by_cases c18 : t162 = true
                · subst c18
                  have H1 : (if ((rd_T24 l0 a1).f1) > 10 then (posternref02_Plain.j1 kj2 l0 a1 true ((rd_T24 l0 a1).f0) ((rd_T24 l0 a1).f1) ((rd_T24 l0 a1).f2) ((rd_T24 l0 a1).f3) ((rd_T24 l0 a1).f4)) else (if t163 = true then (if ((rd_T24 l0 a1).f2) > 10 then (posternref02_Plain.j1 kj2 l0 a1 true ((rd_T24 l0 a1).f0) ((rd_T24 l0 a1).f1) ((rd_T24 l0 a1).f2) ((rd_T24 l0 a1).f3) ((rd_T24 l0 a1).f4)) else (if t164 = true then (if t165 = true then (posternref02_Plain.j1 kj2 l0 a1 false ((rd_T24 l0 a1).f0) ((rd_T24 l0 a1).f1) ((rd_T24 l0 a1).f2) ((rd_T24 l0 a1).f3) ((rd_T24 l0 a1).f4)) else (posternref02_Plain.j1 kj2 l0 a1 (((rd_T24 l0 a1).f4) != 0) ((rd_T24 l0 a1).f0) ((rd_T24 l0 a1).f1) ((rd_T24 l0 a1).f2) ((rd_T24 l0 a1).f3) ((rd_T24 l0 a1).f4))) else (if ((rd_T24 l0 a1).f3) = 0 then (if t165 = true then (posternref02_Plain.j1 kj2 l0 a1 false ((rd_T24 l0 a1).f0) ((rd_T24 l0 a1).f1) ((rd_T24 l0 a1).f2) ((rd_T24 l0 a1).f3) ((rd_T24 l0 a1).f4)) else (posternref02_Plain.j1 kj2 l0 a1 (((rd_T24 l0 a1).f4) != 0) ((rd_T24 l0 a1).f0) ((rd_T24 l0 a1).f1) ((rd_T24 l0 a1).f2) ((rd_T24 l0 a1).f3) ((rd_T24 l0 a1).f4))) else (posternref02_Plain.j1 kj2 l0 a1 true ((rd_T24 l0 a1).f0) ((rd_T24 l0 a1).f1) ((rd_T24 l0 a1).f2) ((rd_T24 l0 a1).f3) ((rd_T24 l0 a1).f4))))) else (if ((rd_T24 l0 a1).f2) = 0 then (if t164 = true then (if t165 = true then (posternref02_Plain.j1 kj2 l0 a1 false ((rd_T24 l0 a1).f0) ((rd_T24 l0 a1).f1) ((rd_T24 l0 a1).f2) ((rd_T24 l0 a1).f3) ((rd_T24 l0 a1).f4)) else (posternref02_Plain.j1 kj2 l0 a1 (((rd_T24 l0 a1).f4) != 0) ((rd_T24 l0 a1).f0) ((rd_T24 l0 a1).f1) ((rd_T24 l0 a1).f2) ((rd_T24 l0 a1).f3) ((rd_T24 l0 a1).f4))) else (if ((rd_T24 l0 a1).f3) = 0 then (if t165 = true then (posternref02_Plain.j1 kj2 l0 a1 false ((rd_T24 l0 a1).f0) ((rd_T24 l0 a1).f1) ((rd_T24 l0 a1).f2) ((rd_T24 l0 a1).f3) ((rd_T24 l0 a1).f4)) else (posternref02_Plain.j1 kj2 l0 a1 (((rd_T24 l0 a1).f4) != 0) ((rd_T24 l0 a1).f0) ((rd_T24 l0 a1).f1) ((rd_T24 l0 a1).f2) ((rd_T24 l0 a1).f3) ((rd_T24 l0 a1).f4))) else (posternref02_Plain.j1 kj2 l0 a1 true ((rd_T24 l0 a1).f0) ((rd_T24 l0 a1).f1) ((rd_T24 l0 a1).f2) ((rd_T24 l0 a1).f3) ((rd_T24 l0 a1).f4)))) else (posternref02_Plain.j1 kj2 l0 a1 true ((rd_T24 l0 a1).f0) ((rd_T24 l0 a1).f1) ((rd_T24 l0 a1).f2) ((rd_T24 l0 a1).f3) ((rd_T24 l0 a1).f4))))) = some (r1, r2) := by rw [if_pos rfl] at H; exact H
                  clear H
                  have H := H1
                  clear H1
                  by_cases c19 : ((rd_T24 l0 a1).f1) > 10
                  · rw [if_pos c19] at H
                    have c19b0 : decide (10 < ((rd_T24 l0 a1).f1)) = true := decide_eq_true c19
                    clear c19
                    (first | rw [c19b0] | (simp only [i64_w, i32_w]; rw [c19b0]) | skip)
                    have H' := Aside0.mk H
                    clear H
                    have hnb20 := NB166_160.out
                    have hnc20 := NB160_166.out
                    have hcz21_0 : w15.cell? ⟨gb166, 0, none⟩ = some (.bool false) := (blk_cell BK166.out 0).trans rfl
                    have hcz21_1 : w15.cell? ⟨gb166, 1, none⟩ = some (.bool false) := (blk_cell BK166.out 1).trans rfl
                    have hcz21_2 : w15.cell? ⟨gb166, 2, none⟩ = some (.bool false) := (blk_cell BK166.out 2).trans rfl
                    have hcz21_3 : w15.cell? ⟨gb166, 3, none⟩ = some (.bool false) := (blk_cell BK166.out 3).trans rfl
                    have hfz21_0 := blk_frozen BK166.out 0
                    have hfz21_1 := blk_frozen BK166.out 1
                    have hfz21_2 := blk_frozen BK166.out 2
                    have hfz21_3 := blk_frozen BK166.out 3
                    have hcz22_0 : w15.cell? ⟨gb160, 0, none⟩ = some (.int .u8 ((rd_T24 l0 a1).f0)) := (blk_cell BK160.out 0).trans rfl
                    have hcz22_1 : w15.cell? ⟨gb160, 1, none⟩ = some (.int .u8 ((rd_T24 l0 a1).f1)) := (blk_cell BK160.out 1).trans rfl
                    have hcz22_2 : w15.cell? ⟨gb160, 2, none⟩ = some (.int .u8 ((rd_T24 l0 a1).f2)) := (blk_cell BK160.out 2).trans rfl
                    have hcz22_3 : w15.cell? ⟨gb160, 3, none⟩ = some (.int .i16 ((rd_T24 l0 a1).f3)) := (blk_cell BK160.out 3).trans rfl
                    have hcz22_4 : w15.cell? ⟨gb160, 4, none⟩ = some (.int .i32 ((rd_T24 l0 a1).f4)) := (blk_cell BK160.out 4).trans rfl
                    have hfz22_0 := blk_frozen BK160.out 0
                    have hfz22_1 := blk_frozen BK160.out 1
                    have hfz22_2 := blk_frozen BK160.out 2
                    have hfz22_3 := blk_frozen BK160.out 3
                    have hfz22_4 := blk_frozen BK160.out 4
                    go_wp2
                    go_meet
                    case rel => exact ⟨_, (true), (by first | rfl | (simp; done) | (simp [*]; done)), H', ⟨by have := HJ2.out; first | omega | exact Nat.le_refl _⟩, ⟨by (with_reducible repeat (first | refine blk_drewN ?_ _ | refine blk_drew ?_ | refine blk_alloc ?_ _)); refine blk_far ?_ NB160_166.out _; (with_reducible repeat (first | refine blk_drewN ?_ _ | refine blk_drew ?_ | refine blk_alloc ?_ _)); refine blk_far ?_ NB160_166.out _; (with_reducible repeat (first | refine blk_drewN ?_ _ | refine blk_drew ?_ | refine blk_alloc ?_ _)); refine blk_far ?_ NB160_166.out _; (with_reducible repeat (first | refine blk_drewN ?_ _ | refine blk_drew ?_ | refine blk_alloc ?_ _)); refine blk_far ?_ NB160_166.out _; (with_reducible repeat (first | refine blk_drewN ?_ _ | refine blk_drew ?_ | refine blk_alloc ?_ _)); exact BK160.out⟩, ⟨by (with_reducible repeat (first | refine blk_drewN ?_ _ | refine blk_drew ?_ | refine blk_alloc ?_ _)); refine blk_put (cs := #[.bool true, .bool t163, .bool t164, .bool false]) ?_ 3 _ rfl; (with_reducible repeat (first | refine blk_drewN ?_ _ | refine blk_drew ?_ | refine blk_alloc ?_ _)); refine blk_put (cs := #[.bool true, .bool t163, .bool false, .bool false]) ?_ 2 _ rfl; (with_reducible repeat (first | refine blk_drewN ?_ _ | refine blk_drew ?_ | refine blk_alloc ?_ _)); refine blk_put (cs := #[.bool true, .bool false, .bool false, .bool false]) ?_ 1 _ rfl; (with_reducible repeat (first | refine blk_drewN ?_ _ | refine blk_drew ?_ | refine blk_alloc ?_ _)); refine blk_put (cs := #[.bool false, .bool false, .bool false, .bool false]) ?_ 0 _ rfl; (with_reducible repeat (first | refine blk_drewN ?_ _ | refine blk_drew ?_ | refine blk_alloc ?_ _)); exact BK166.out⟩, ⟨by repeat (first | (with_reducible first | exact HB.out | apply below_alloc | apply pw_below_drewN | apply below_drew1 | refine below_set ?_ GE160.out | refine below_set ?_ GE166.out) | exact HB.out)⟩⟩
                  · rw [if_neg c19] at H
                    have c19b0 : decide (10 < ((rd_T24 l0 a1).f1)) = false := decide_eq_false c19
                    clear c19
                    (first | rw [c19b0] | (simp only [i64_w, i32_w]; rw [c19b0]) | skip)
                    by_cases c23 : t163 = true
                    · subst c23
                      have H1 : (if ((rd_T24 l0 a1).f2) > 10 then (posternref02_Plain.j1 kj2 l0 a1 true ((rd_T24 l0 a1).f0) ((rd_T24 l0 a1).f1) ((rd_T24 l0 a1).f2) ((rd_T24 l0 a1).f3) ((rd_T24 l0 a1).f4)) else (if t164 = true then (if t165 = true then (posternref02_Plain.j1 kj2 l0 a1 false ((rd_T24 l0 a1).f0) ((rd_T24 l0 a1).f1) ((rd_T24 l0 a1).f2) ((rd_T24 l0 a1).f3) ((rd_T24 l0 a1).f4)) else (posternref02_Plain.j1 kj2 l0 a1 (((rd_T24 l0 a1).f4) != 0) ((rd_T24 l0 a1).f0) ((rd_T24 l0 a1).f1) ((rd_T24 l0 a1).f2) ((rd_T24 l0 a1).f3) ((rd_T24 l0 a1).f4))) else (if ((rd_T24 l0 a1).f3) = 0 then (if t165 = true then (posternref02_Plain.j1 kj2 l0 a1 false ((rd_T24 l0 a1).f0) ((rd_T24 l0 a1).f1) ((rd_T24 l0 a1).f2) ((rd_T24 l0 a1).f3) ((rd_T24 l0 a1).f4)) else (posternref02_Plain.j1 kj2 l0 a1 (((rd_T24 l0 a1).f4) != 0) ((rd_T24 l0 a1).f0) ((rd_T24 l0 a1).f1) ((rd_T24 l0 a1).f2) ((rd_T24 l0 a1).f3) ((rd_T24 l0 a1).f4))) else (posternref02_Plain.j1 kj2 l0 a1 true ((rd_T24 l0 a1).f0) ((rd_T24 l0 a1).f1) ((rd_T24 l0 a1).f2) ((rd_T24 l0 a1).f3) ((rd_T24 l0 a1).f4))))) = some (r1, r2) := by rw [if_pos rfl] at H; exact H
                      clear H
                      have H := H1
                      clear H1
                      by_cases c24 : ((rd_T24 l0 a1).f2) > 10
                      · rw [if_pos c24] at H
                        have c24b0 : decide (10 < ((rd_T24 l0 a1).f2)) = true := decide_eq_true c24
                        clear c24
                        have H' := Aside0.mk H
                        clear H
                        have hnb25 := NB166_160.out
                        have hnc25 := NB160_166.out
                        have hcz26_0 : w15.cell? ⟨gb166, 0, none⟩ = some (.bool false) := (blk_cell BK166.out 0).trans rfl
                        have hcz26_1 : w15.cell? ⟨gb166, 1, none⟩ = some (.bool false) := (blk_cell BK166.out 1).trans rfl
                        have hcz26_2 : w15.cell? ⟨gb166, 2, none⟩ = some (.bool false) := (blk_cell BK166.out 2).trans rfl
                        have hcz26_3 : w15.cell? ⟨gb166, 3, none⟩ = some (.bool false) := (blk_cell BK166.out 3).trans rfl
                        have hfz26_0 := blk_frozen BK166.out 0
                        have hfz26_1 := blk_frozen BK166.out 1
                        have hfz26_2 := blk_frozen BK166.out 2
                        have hfz26_3 := blk_frozen BK166.out 3
                        have hcz27_0 : w15.cell? ⟨gb160, 0, none⟩ = some (.int .u8 ((rd_T24 l0 a1).f0)) := (blk_cell BK160.out 0).trans rfl
                        have hcz27_1 : w15.cell? ⟨gb160, 1, none⟩ = some (.int .u8 ((rd_T24 l0 a1).f1)) := (blk_cell BK160.out 1).trans rfl
                        have hcz27_2 : w15.cell? ⟨gb160, 2, none⟩ = some (.int .u8 ((rd_T24 l0 a1).f2)) := (blk_cell BK160.out 2).trans rfl
                        have hcz27_3 : w15.cell? ⟨gb160, 3, none⟩ = some (.int .i16 ((rd_T24 l0 a1).f3)) := (blk_cell BK160.out 3).trans rfl
                        have hcz27_4 : w15.cell? ⟨gb160, 4, none⟩ = some (.int .i32 ((rd_T24 l0 a1).f4)) := (blk_cell BK160.out 4).trans rfl
                        have hfz27_0 := blk_frozen BK160.out 0
                        have hfz27_1 := blk_frozen BK160.out 1
                        have hfz27_2 := blk_frozen BK160.out 2
                        have hfz27_3 := blk_frozen BK160.out 3
                        have hfz27_4 := blk_frozen BK160.out 4
                        go_wp2
                        go_meet
                        case rel => exact ⟨_, (true), (by first | rfl | (simp; done) | (simp [*]; done)), H', ⟨by have := HJ2.out; first | omega | exact Nat.le_refl _⟩, ⟨by (with_reducible repeat (first | refine blk_drewN ?_ _ | refine blk_drew ?_ | refine blk_alloc ?_ _)); refine blk_far ?_ NB160_166.out _; (with_reducible repeat (first | refine blk_drewN ?_ _ | refine blk_drew ?_ | refine blk_alloc ?_ _)); refine blk_far ?_ NB160_166.out _; (with_reducible repeat (first | refine blk_drewN ?_ _ | refine blk_drew ?_ | refine blk_alloc ?_ _)); refine blk_far ?_ NB160_166.out _; (with_reducible repeat (first | refine blk_drewN ?_ _ | refine blk_drew ?_ | refine blk_alloc ?_ _)); refine blk_far ?_ NB160_166.out _; (with_reducible repeat (first | refine blk_drewN ?_ _ | refine blk_drew ?_ | refine blk_alloc ?_ _)); exact BK160.out⟩, ⟨by (with_reducible repeat (first | refine blk_drewN ?_ _ | refine blk_drew ?_ | refine blk_alloc ?_ _)); refine blk_put (cs := #[.bool true, .bool true, .bool t164, .bool false]) ?_ 3 _ rfl; (with_reducible repeat (first | refine blk_drewN ?_ _ | refine blk_drew ?_ | refine blk_alloc ?_ _)); refine blk_put (cs := #[.bool true, .bool true, .bool false, .bool false]) ?_ 2 _ rfl; (with_reducible repeat (first | refine blk_drewN ?_ _ | refine blk_drew ?_ | refine blk_alloc ?_ _)); refine blk_put (cs := #[.bool true, .bool false, .bool false, .bool false]) ?_ 1 _ rfl; (with_reducible repeat (first | refine blk_drewN ?_ _ | refine blk_drew ?_ | refine blk_alloc ?_ _)); refine blk_put (cs := #[.bool false, .bool false, .bool false, .bool false]) ?_ 0 _ rfl; (with_reducible repeat (first | refine blk_drewN ?_ _ | refine blk_drew ?_ | refine blk_alloc ?_ _)); exact BK166.out⟩, ⟨by repeat (first | (with_reducible first | exact HB.out | apply below_alloc | apply pw_below_drewN | apply below_drew1 | refine below_set ?_ GE160.out | refine below_set ?_ GE166.out) | exact HB.out)⟩⟩
                      · rw [if_neg c24] at H
                        have c24b0 : decide (10 < ((rd_T24 l0 a1).f2)) = false := decide_eq_false c24
                        clear c24
                        by_cases c28 : t164 = true
                        · subst c28
                          have H1 : (if t165 = true then (posternref02_Plain.j1 kj2 l0 a1 false ((rd_T24 l0 a1).f0) ((rd_T24 l0 a1).f1) ((rd_T24 l0 a1).f2) ((rd_T24 l0 a1).f3) ((rd_T24 l0 a1).f4)) else (posternref02_Plain.j1 kj2 l0 a1 (((rd_T24 l0 a1).f4) != 0) ((rd_T24 l0 a1).f0) ((rd_T24 l0 a1).f1) ((rd_T24 l0 a1).f2) ((rd_T24 l0 a1).f3) ((rd_T24 l0 a1).f4))) = some (r1, r2) := by rw [if_pos rfl] at H; exact H
                          clear H
                          have H := H1
                          clear H1
                          by_cases c29 : t165 = true
                          · subst c29
                            have H1 : (posternref02_Plain.j1 kj2 l0 a1 false ((rd_T24 l0 a1).f0) ((rd_T24 l0 a1).f1) ((rd_T24 l0 a1).f2) ((rd_T24 l0 a1).f3) ((rd_T24 l0 a1).f4)) = some (r1, r2) := by rw [if_pos rfl] at H; exact H
                            clear H
                            have H := H1
                            clear H1
                            have H' := Aside0.mk H
                            clear H
                            have hnb30 := NB166_160.out
                            have hnc30 := NB160_166.out
                            have hcz31_0 : w15.cell? ⟨gb166, 0, none⟩ = some (.bool false) := (blk_cell BK166.out 0).trans rfl
                            have hcz31_1 : w15.cell? ⟨gb166, 1, none⟩ = some (.bool false) := (blk_cell BK166.out 1).trans rfl
                            have hcz31_2 : w15.cell? ⟨gb166, 2, none⟩ = some (.bool false) := (blk_cell BK166.out 2).trans rfl
                            have hcz31_3 : w15.cell? ⟨gb166, 3, none⟩ = some (.bool false) := (blk_cell BK166.out 3).trans rfl
                            have hfz31_0 := blk_frozen BK166.out 0
                            have hfz31_1 := blk_frozen BK166.out 1
                            have hfz31_2 := blk_frozen BK166.out 2
                            have hfz31_3 := blk_frozen BK166.out 3
                            have hcz32_0 : w15.cell? ⟨gb160, 0, none⟩ = some (.int .u8 ((rd_T24 l0 a1).f0)) := (blk_cell BK160.out 0).trans rfl
                            have hcz32_1 : w15.cell? ⟨gb160, 1, none⟩ = some (.int .u8 ((rd_T24 l0 a1).f1)) := (blk_cell BK160.out 1).trans rfl
                            have hcz32_2 : w15.cell? ⟨gb160, 2, none⟩ = some (.int .u8 ((rd_T24 l0 a1).f2)) := (blk_cell BK160.out 2).trans rfl
                            have hcz32_3 : w15.cell? ⟨gb160, 3, none⟩ = some (.int .i16 ((rd_T24 l0 a1).f3)) := (blk_cell BK160.out 3).trans rfl
                            have hcz32_4 : w15.cell? ⟨gb160, 4, none⟩ = some (.int .i32 ((rd_T24 l0 a1).f4)) := (blk_cell BK160.out 4).trans rfl
                            have hfz32_0 := blk_frozen BK160.out 0
                            have hfz32_1 := blk_frozen BK160.out 1
                            have hfz32_2 := blk_frozen BK160.out 2
                            have hfz32_3 := blk_frozen BK160.out 3
                            have hfz32_4 := blk_frozen BK160.out 4
                            go_wp2
                            go_meet
                            case rel => exact ⟨_, (false), (by first | rfl | (simp; done) | (simp [*]; done)), H', ⟨by have := HJ2.out; first | omega | exact Nat.le_refl _⟩, ⟨by (with_reducible repeat (first | refine blk_drewN ?_ _ | refine blk_drew ?_ | refine blk_alloc ?_ _)); refine blk_far ?_ NB160_166.out _; (with_reducible repeat (first | refine blk_drewN ?_ _ | refine blk_drew ?_ | refine blk_alloc ?_ _)); refine blk_far ?_ NB160_166.out _; (with_reducible repeat (first | refine blk_drewN ?_ _ | refine blk_drew ?_ | refine blk_alloc ?_ _)); refine blk_far ?_ NB160_166.out _; (with_reducible repeat (first | refine blk_drewN ?_ _ | refine blk_drew ?_ | refine blk_alloc ?_ _)); refine blk_far ?_ NB160_166.out _; (with_reducible repeat (first | refine blk_drewN ?_ _ | refine blk_drew ?_ | refine blk_alloc ?_ _)); exact BK160.out⟩, ⟨by (with_reducible repeat (first | refine blk_drewN ?_ _ | refine blk_drew ?_ | refine blk_alloc ?_ _)); refine blk_put (cs := #[.bool true, .bool true, .bool true, .bool false]) ?_ 3 _ rfl; (with_reducible repeat (first | refine blk_drewN ?_ _ | refine blk_drew ?_ | refine blk_alloc ?_ _)); refine blk_put (cs := #[.bool true, .bool true, .bool false, .bool false]) ?_ 2 _ rfl; (with_reducible repeat (first | refine blk_drewN ?_ _ | refine blk_drew ?_ | refine blk_alloc ?_ _)); refine blk_put (cs := #[.bool true, .bool false, .bool false, .bool false]) ?_ 1 _ rfl; (with_reducible repeat (first | refine blk_drewN ?_ _ | refine blk_drew ?_ | refine blk_alloc ?_ _)); refine blk_put (cs := #[.bool false, .bool false, .bool false, .bool false]) ?_ 0 _ rfl; (with_reducible repeat (first | refine blk_drewN ?_ _ | refine blk_drew ?_ | refine blk_alloc ?_ _)); exact BK166.out⟩, ⟨by repeat (first | (with_reducible first | exact HB.out | apply below_alloc | apply pw_below_drewN | apply below_drew1 | refine below_set ?_ GE160.out | refine below_set ?_ GE166.out) | exact HB.out)⟩⟩
                          · replace c29 := Bool.eq_false_iff.mpr c29
                            subst c29
                            have H1 : (posternref02_Plain.j1 kj2 l0 a1 (((rd_T24 l0 a1).f4) != 0) ((rd_T24 l0 a1).f0) ((rd_T24 l0 a1).f1) ((rd_T24 l0 a1).f2) ((rd_T24 l0 a1).f3) ((rd_T24 l0 a1).f4)) = some (r1, r2) := by rw [if_neg (show ¬ (false = true) by decide)] at H; exact H
                            clear H
                            have H := H1
                            clear H1
                            have H' := Aside0.mk H
                            clear H
                            have hnb33 := NB166_160.out
                            have hnc33 := NB160_166.out
                            have hcz34_0 : w15.cell? ⟨gb166, 0, none⟩ = some (.bool false) := (blk_cell BK166.out 0).trans rfl
                            have hcz34_1 : w15.cell? ⟨gb166, 1, none⟩ = some (.bool false) := (blk_cell BK166.out 1).trans rfl
                            have hcz34_2 : w15.cell? ⟨gb166, 2, none⟩ = some (.bool false) := (blk_cell BK166.out 2).trans rfl
                            have hcz34_3 : w15.cell? ⟨gb166, 3, none⟩ = some (.bool false) := (blk_cell BK166.out 3).trans rfl
                            have hfz34_0 := blk_frozen BK166.out 0
                            have hfz34_1 := blk_frozen BK166.out 1
                            have hfz34_2 := blk_frozen BK166.out 2
                            have hfz34_3 := blk_frozen BK166.out 3
                            have hcz35_0 : w15.cell? ⟨gb160, 0, none⟩ = some (.int .u8 ((rd_T24 l0 a1).f0)) := (blk_cell BK160.out 0).trans rfl
                            have hcz35_1 : w15.cell? ⟨gb160, 1, none⟩ = some (.int .u8 ((rd_T24 l0 a1).f1)) := (blk_cell BK160.out 1).trans rfl
                            have hcz35_2 : w15.cell? ⟨gb160, 2, none⟩ = some (.int .u8 ((rd_T24 l0 a1).f2)) := (blk_cell BK160.out 2).trans rfl
                            have hcz35_3 : w15.cell? ⟨gb160, 3, none⟩ = some (.int .i16 ((rd_T24 l0 a1).f3)) := (blk_cell BK160.out 3).trans rfl
                            have hcz35_4 : w15.cell? ⟨gb160, 4, none⟩ = some (.int .i32 ((rd_T24 l0 a1).f4)) := (blk_cell BK160.out 4).trans rfl
                            have hfz35_0 := blk_frozen BK160.out 0
                            have hfz35_1 := blk_frozen BK160.out 1
                            have hfz35_2 := blk_frozen BK160.out 2
                            have hfz35_3 := blk_frozen BK160.out 3
                            have hfz35_4 := blk_frozen BK160.out 4
                            go_wp2
                            go_meet
                            case rel => exact ⟨_, ((((rd_T24 l0 a1).f4) != 0)), (by first | rfl | (simp; done) | (simp [*]; done)), H', ⟨by have := HJ2.out; first | omega | exact Nat.le_refl _⟩, ⟨by (with_reducible repeat (first | refine blk_drewN ?_ _ | refine blk_drew ?_ | refine blk_alloc ?_ _)); refine blk_far ?_ NB160_166.out _; (with_reducible repeat (first | refine blk_drewN ?_ _ | refine blk_drew ?_ | refine blk_alloc ?_ _)); refine blk_far ?_ NB160_166.out _; (with_reducible repeat (first | refine blk_drewN ?_ _ | refine blk_drew ?_ | refine blk_alloc ?_ _)); refine blk_far ?_ NB160_166.out _; (with_reducible repeat (first | refine blk_drewN ?_ _ | refine blk_drew ?_ | refine blk_alloc ?_ _)); refine blk_far ?_ NB160_166.out _; (with_reducible repeat (first | refine blk_drewN ?_ _ | refine blk_drew ?_ | refine blk_alloc ?_ _)); exact BK160.out⟩, ⟨by (with_reducible repeat (first | refine blk_drewN ?_ _ | refine blk_drew ?_ | refine blk_alloc ?_ _)); refine blk_put (cs := #[.bool true, .bool true, .bool true, .bool false]) ?_ 3 _ rfl; (with_reducible repeat (first | refine blk_drewN ?_ _ | refine blk_drew ?_ | refine blk_alloc ?_ _)); refine blk_put (cs := #[.bool true, .bool true, .bool false, .bool false]) ?_ 2 _ rfl; (with_reducible repeat (first | refine blk_drewN ?_ _ | refine blk_drew ?_ | refine blk_alloc ?_ _)); refine blk_put (cs := #[.bool true, .bool false, .bool false, .bool false]) ?_ 1 _ rfl; (with_reducible repeat (first | refine blk_drewN ?_ _ | refine blk_drew ?_ | refine blk_alloc ?_ _)); refine blk_put (cs := #[.bool false, .bool false, .bool false, .bool false]) ?_ 0 _ rfl; (with_reducible repeat (first | refine blk_drewN ?_ _ | refine blk_drew ?_ | refine blk_alloc ?_ _)); exact BK166.out⟩, ⟨by repeat (first | (with_reducible first | exact HB.out | apply below_alloc | apply pw_below_drewN | apply below_drew1 | refine below_set ?_ GE160.out | refine below_set ?_ GE166.out) | exact HB.out)⟩⟩
                        · replace c28 := Bool.eq_false_iff.mpr c28
                          subst c28
                          have H1 : (if ((rd_T24 l0 a1).f3) = 0 then (if t165 = true then (posternref02_Plain.j1 kj2 l0 a1 false ((rd_T24 l0 a1).f0) ((rd_T24 l0 a1).f1) ((rd_T24 l0 a1).f2) ((rd_T24 l0 a1).f3) ((rd_T24 l0 a1).f4)) else (posternref02_Plain.j1 kj2 l0 a1 (((rd_T24 l0 a1).f4) != 0) ((rd_T24 l0 a1).f0) ((rd_T24 l0 a1).f1) ((rd_T24 l0 a1).f2) ((rd_T24 l0 a1).f3) ((rd_T24 l0 a1).f4))) else (posternref02_Plain.j1 kj2 l0 a1 true ((rd_T24 l0 a1).f0) ((rd_T24 l0 a1).f1) ((rd_T24 l0 a1).f2) ((rd_T24 l0 a1).f3) ((rd_T24 l0 a1).f4))) = some (r1, r2) := by rw [if_neg (show ¬ (false = true) by decide)] at H; exact H
                          clear H
                          have H := H1
                          clear H1
                          by_cases c36 : ((rd_T24 l0 a1).f3) = 0
                          · rw [if_pos c36] at H
                            have c36b0 : (((rd_T24 l0 a1).f3) == 0) = true := beq_iff_eq.mpr c36
                            have c36b1 : (((rd_T24 l0 a1).f3) != 0) = false := bne_eq_false_iff_eq.mpr c36
                            clear c36
                            by_cases c37 : t165 = true
                            · subst c37
                              have H1 : (posternref02_Plain.j1 kj2 l0 a1 false ((rd_T24 l0 a1).f0) ((rd_T24 l0 a1).f1) ((rd_T24 l0 a1).f2) ((rd_T24 l0 a1).f3) ((rd_T24 l0 a1).f4)) = some (r1, r2) := by rw [if_pos rfl] at H; exact H
                              clear H
                              have H := H1
                              clear H1
                              have H' := Aside0.mk H
                              clear H
                              have hnb38 := NB166_160.out
                              have hnc38 := NB160_166.out
                              have hcz39_0 : w15.cell? ⟨gb166, 0, none⟩ = some (.bool false) := (blk_cell BK166.out 0).trans rfl
                              have hcz39_1 : w15.cell? ⟨gb166, 1, none⟩ = some (.bool false) := (blk_cell BK166.out 1).trans rfl
                              have hcz39_2 : w15.cell? ⟨gb166, 2, none⟩ = some (.bool false) := (blk_cell BK166.out 2).trans rfl
                              have hcz39_3 : w15.cell? ⟨gb166, 3, none⟩ = some (.bool false) := (blk_cell BK166.out 3).trans rfl
                              have hfz39_0 := blk_frozen BK166.out 0
                              have hfz39_1 := blk_frozen BK166.out 1
                              have hfz39_2 := blk_frozen BK166.out 2
                              have hfz39_3 := blk_frozen BK166.out 3
                              have hcz40_0 : w15.cell? ⟨gb160, 0, none⟩ = some (.int .u8 ((rd_T24 l0 a1).f0)) := (blk_cell BK160.out 0).trans rfl
                              have hcz40_1 : w15.cell? ⟨gb160, 1, none⟩ = some (.int .u8 ((rd_T24 l0 a1).f1)) := (blk_cell BK160.out 1).trans rfl
                              have hcz40_2 : w15.cell? ⟨gb160, 2, none⟩ = some (.int .u8 ((rd_T24 l0 a1).f2)) := (blk_cell BK160.out 2).trans rfl
                              have hcz40_3 : w15.cell? ⟨gb160, 3, none⟩ = some (.int .i16 ((rd_T24 l0 a1).f3)) := (blk_cell BK160.out 3).trans rfl
                              have hcz40_4 : w15.cell? ⟨gb160, 4, none⟩ = some (.int .i32 ((rd_T24 l0 a1).f4)) := (blk_cell BK160.out 4).trans rfl
                              have hfz40_0 := blk_frozen BK160.out 0
                              have hfz40_1 := blk_frozen BK160.out 1
                              have hfz40_2 := blk_frozen BK160.out 2
                              have hfz40_3 := blk_frozen BK160.out 3
                              have hfz40_4 := blk_frozen BK160.out 4
                              go_wp2
                              go_meet
                              case rel => exact ⟨_, (false), (by first | rfl | (simp; done) | (simp [*]; done)), H', ⟨by have := HJ2.out; first | omega | exact Nat.le_refl _⟩, ⟨by (with_reducible repeat (first | refine blk_drewN ?_ _ | refine blk_drew ?_ | refine blk_alloc ?_ _)); refine blk_far ?_ NB160_166.out _; (with_reducible repeat (first | refine blk_drewN ?_ _ | refine blk_drew ?_ | refine blk_alloc ?_ _)); refine blk_far ?_ NB160_166.out _; (with_reducible repeat (first | refine blk_drewN ?_ _ | refine blk_drew ?_ | refine blk_alloc ?_ _)); refine blk_far ?_ NB160_166.out _; (with_reducible repeat (first | refine blk_drewN ?_ _ | refine blk_drew ?_ | refine blk_alloc ?_ _)); refine blk_far ?_ NB160_166.out _; (with_reducible repeat (first | refine blk_drewN ?_ _ | refine blk_drew ?_ | refine blk_alloc ?_ _)); exact BK160.out⟩, ⟨by (with_reducible repeat (first | refine blk_drewN ?_ _ | refine blk_drew ?_ | refine blk_alloc ?_ _)); refine blk_put (cs := #[.bool true, .bool true, .bool false, .bool false]) ?_ 3 _ rfl; (with_reducible repeat (first | refine blk_drewN ?_ _ | refine blk_drew ?_ | refine blk_alloc ?_ _)); refine blk_put (cs := #[.bool true, .bool true, .bool false, .bool false]) ?_ 2 _ rfl; (with_reducible repeat (first | refine blk_drewN ?_ _ | refine blk_drew ?_ | refine blk_alloc ?_ _)); refine blk_put (cs := #[.bool true, .bool false, .bool false, .bool false]) ?_ 1 _ rfl; (with_reducible repeat (first | refine blk_drewN ?_ _ | refine blk_drew ?_ | refine blk_alloc ?_ _)); refine blk_put (cs := #[.bool false, .bool false, .bool false, .bool false]) ?_ 0 _ rfl; (with_reducible repeat (first | refine blk_drewN ?_ _ | refine blk_drew ?_ | refine blk_alloc ?_ _)); exact BK166.out⟩, ⟨by repeat (first | (with_reducible first | exact HB.out | apply below_alloc | apply pw_below_drewN | apply below_drew1 | refine below_set ?_ GE160.out | refine below_set ?_ GE166.out) | exact HB.out)⟩⟩
                            · replace c37 := Bool.eq_false_iff.mpr c37
                              subst c37
                              have H1 : (posternref02_Plain.j1 kj2 l0 a1 (((rd_T24 l0 a1).f4) != 0) ((rd_T24 l0 a1).f0) ((rd_T24 l0 a1).f1) ((rd_T24 l0 a1).f2) ((rd_T24 l0 a1).f3) ((rd_T24 l0 a1).f4)) = some (r1, r2) := by rw [if_neg (show ¬ (false = true) by decide)] at H; exact H
                              clear H
                              have H := H1
                              clear H1
                              have H' := Aside0.mk H
                              clear H
                              have hnb41 := NB166_160.out
                              have hnc41 := NB160_166.out
                              have hcz42_0 : w15.cell? ⟨gb166, 0, none⟩ = some (.bool false) := (blk_cell BK166.out 0).trans rfl
                              have hcz42_1 : w15.cell? ⟨gb166, 1, none⟩ = some (.bool false) := (blk_cell BK166.out 1).trans rfl
                              have hcz42_2 : w15.cell? ⟨gb166, 2, none⟩ = some (.bool false) := (blk_cell BK166.out 2).trans rfl
                              have hcz42_3 : w15.cell? ⟨gb166, 3, none⟩ = some (.bool false) := (blk_cell BK166.out 3).trans rfl
                              have hfz42_0 := blk_frozen BK166.out 0
                              have hfz42_1 := blk_frozen BK166.out 1
                              have hfz42_2 := blk_frozen BK166.out 2
                              have hfz42_3 := blk_frozen BK166.out 3
                              have hcz43_0 : w15.cell? ⟨gb160, 0, none⟩ = some (.int .u8 ((rd_T24 l0 a1).f0)) := (blk_cell BK160.out 0).trans rfl
                              have hcz43_1 : w15.cell? ⟨gb160, 1, none⟩ = some (.int .u8 ((rd_T24 l0 a1).f1)) := (blk_cell BK160.out 1).trans rfl
                              have hcz43_2 : w15.cell? ⟨gb160, 2, none⟩ = some (.int .u8 ((rd_T24 l0 a1).f2)) := (blk_cell BK160.out 2).trans rfl
                              have hcz43_3 : w15.cell? ⟨gb160, 3, none⟩ = some (.int .i16 ((rd_T24 l0 a1).f3)) := (blk_cell BK160.out 3).trans rfl
                              have hcz43_4 : w15.cell? ⟨gb160, 4, none⟩ = some (.int .i32 ((rd_T24 l0 a1).f4)) := (blk_cell BK160.out 4).trans rfl
                              have hfz43_0 := blk_frozen BK160.out 0
                              have hfz43_1 := blk_frozen BK160.out 1
                              have hfz43_2 := blk_frozen BK160.out 2
                              have hfz43_3 := blk_frozen BK160.out 3
                              have hfz43_4 := blk_frozen BK160.out 4
                              go_wp2
                              go_meet
                              case rel => exact ⟨_, ((((rd_T24 l0 a1).f4) != 0)), (by first | rfl | (simp; done) | (simp [*]; done)), H', ⟨by have := HJ2.out; first | omega | exact Nat.le_refl _⟩, ⟨by (with_reducible repeat (first | refine blk_drewN ?_ _ | refine blk_drew ?_ | refine blk_alloc ?_ _)); refine blk_far ?_ NB160_166.out _; (with_reducible repeat (first | refine blk_drewN ?_ _ | refine blk_drew ?_ | refine blk_alloc ?_ _)); refine blk_far ?_ NB160_166.out _; (with_reducible repeat (first | refine blk_drewN ?_ _ | refine blk_drew ?_ | refine blk_alloc ?_ _)); refine blk_far ?_ NB160_166.out _; (with_reducible repeat (first | refine blk_drewN ?_ _ | refine blk_drew ?_ | refine blk_alloc ?_ _)); refine blk_far ?_ NB160_166.out _; (with_reducible repeat (first | refine blk_drewN ?_ _ | refine blk_drew ?_ | refine blk_alloc ?_ _)); exact BK160.out⟩, ⟨by (with_reducible repeat (first | refine blk_drewN ?_ _ | refine blk_drew ?_ | refine blk_alloc ?_ _)); refine blk_put (cs := #[.bool true, .bool true, .bool false, .bool false]) ?_ 3 _ rfl; (with_reducible repeat (first | refine blk_drewN ?_ _ | refine blk_drew ?_ | refine blk_alloc ?_ _)); refine blk_put (cs := #[.bool true, .bool true, .bool false, .bool false]) ?_ 2 _ rfl; (with_reducible repeat (first | refine blk_drewN ?_ _ | refine blk_drew ?_ | refine blk_alloc ?_ _)); refine blk_put (cs := #[.bool true, .bool false, .bool false, .bool false]) ?_ 1 _ rfl; (with_reducible repeat (first | refine blk_drewN ?_ _ | refine blk_drew ?_ | refine blk_alloc ?_ _)); refine blk_put (cs := #[.bool false, .bool false, .bool false, .bool false]) ?_ 0 _ rfl; (with_reducible repeat (first | refine blk_drewN ?_ _ | refine blk_drew ?_ | refine blk_alloc ?_ _)); exact BK166.out⟩, ⟨by repeat (first | (with_reducible first | exact HB.out | apply below_alloc | apply pw_below_drewN | apply below_drew1 | refine below_set ?_ GE160.out | refine below_set ?_ GE166.out) | exact HB.out)⟩⟩
                          · rw [if_neg c36] at H
                            have c36b0 : (((rd_T24 l0 a1).f3) == 0) = false := beq_eq_false_iff_ne.mpr c36
                            have c36b1 : (((rd_T24 l0 a1).f3) != 0) = true := bne_iff_ne.mpr c36
                            have H' := Aside0.mk H
                            clear H
                            have hnb44 := NB166_160.out
                            have hnc44 := NB160_166.out
                            have hcz45_0 : w15.cell? ⟨gb166, 0, none⟩ = some (.bool false) := (blk_cell BK166.out 0).trans rfl
                            have hcz45_1 : w15.cell? ⟨gb166, 1, none⟩ = some (.bool false) := (blk_cell BK166.out 1).trans rfl
                            have hcz45_2 : w15.cell? ⟨gb166, 2, none⟩ = some (.bool false) := (blk_cell BK166.out 2).trans rfl
                            have hcz45_3 : w15.cell? ⟨gb166, 3, none⟩ = some (.bool false) := (blk_cell BK166.out 3).trans rfl
                            have hfz45_0 := blk_frozen BK166.out 0
                            have hfz45_1 := blk_frozen BK166.out 1
                            have hfz45_2 := blk_frozen BK166.out 2
                            have hfz45_3 := blk_frozen BK166.out 3
                            have hcz46_0 : w15.cell? ⟨gb160, 0, none⟩ = some (.int .u8 ((rd_T24 l0 a1).f0)) := (blk_cell BK160.out 0).trans rfl
                            have hcz46_1 : w15.cell? ⟨gb160, 1, none⟩ = some (.int .u8 ((rd_T24 l0 a1).f1)) := (blk_cell BK160.out 1).trans rfl
                            have hcz46_2 : w15.cell? ⟨gb160, 2, none⟩ = some (.int .u8 ((rd_T24 l0 a1).f2)) := (blk_cell BK160.out 2).trans rfl
                            have hcz46_3 : w15.cell? ⟨gb160, 3, none⟩ = some (.int .i16 ((rd_T24 l0 a1).f3)) := (blk_cell BK160.out 3).trans rfl
                            have hcz46_4 : w15.cell? ⟨gb160, 4, none⟩ = some (.int .i32 ((rd_T24 l0 a1).f4)) := (blk_cell BK160.out 4).trans rfl
                            have hfz46_0 := blk_frozen BK160.out 0
                            have hfz46_1 := blk_frozen BK160.out 1
                            have hfz46_2 := blk_frozen BK160.out 2
                            have hfz46_3 := blk_frozen BK160.out 3
                            have hfz46_4 := blk_frozen BK160.out 4
                            go_wp2
                            go_meet
                            case rel => exact ⟨_, (true), (by first | rfl | (simp; done) | (simp [*]; done)), H', ⟨by have := HJ2.out; first | omega | exact Nat.le_refl _⟩, ⟨by (with_reducible repeat (first | refine blk_drewN ?_ _ | refine blk_drew ?_ | refine blk_alloc ?_ _)); refine blk_far ?_ NB160_166.out _; (with_reducible repeat (first | refine blk_drewN ?_ _ | refine blk_drew ?_ | refine blk_alloc ?_ _)); refine blk_far ?_ NB160_166.out _; (with_reducible repeat (first | refine blk_drewN ?_ _ | refine blk_drew ?_ | refine blk_alloc ?_ _)); refine blk_far ?_ NB160_166.out _; (with_reducible repeat (first | refine blk_drewN ?_ _ | refine blk_drew ?_ | refine blk_alloc ?_ _)); refine blk_far ?_ NB160_166.out _; (with_reducible repeat (first | refine blk_drewN ?_ _ | refine blk_drew ?_ | refine blk_alloc ?_ _)); exact BK160.out⟩, ⟨by (with_reducible repeat (first | refine blk_drewN ?_ _ | refine blk_drew ?_ | refine blk_alloc ?_ _)); refine blk_put (cs := #[.bool true, .bool true, .bool false, .bool false]) ?_ 3 _ rfl; (with_reducible repeat (first | refine blk_drewN ?_ _ | refine blk_drew ?_ | refine blk_alloc ?_ _)); refine blk_put (cs := #[.bool true, .bool true, .bool false, .bool false]) ?_ 2 _ rfl; (with_reducible repeat (first | refine blk_drewN ?_ _ | refine blk_drew ?_ | refine blk_alloc ?_ _)); refine blk_put (cs := #[.bool true, .bool false, .bool false, .bool false]) ?_ 1 _ rfl; (with_reducible repeat (first | refine blk_drewN ?_ _ | refine blk_drew ?_ | refine blk_alloc ?_ _)); refine blk_put (cs := #[.bool false, .bool false, .bool false, .bool false]) ?_ 0 _ rfl; (with_reducible repeat (first | refine blk_drewN ?_ _ | refine blk_drew ?_ | refine blk_alloc ?_ _)); exact BK166.out⟩, ⟨by repeat (first | (with_reducible first | exact HB.out | apply below_alloc | apply pw_below_drewN | apply below_drew1 | refine below_set ?_ GE160.out | refine below_set ?_ GE166.out) | exact HB.out)⟩⟩
                    · replace c23 := Bool.eq_false_iff.mpr c23
                      subst c23
                      have H1 : (if ((rd_T24 l0 a1).f2) = 0 then (if t164 = true then (if t165 = true then (posternref02_Plain.j1 kj2 l0 a1 false ((rd_T24 l0 a1).f0) ((rd_T24 l0 a1).f1) ((rd_T24 l0 a1).f2) ((rd_T24 l0 a1).f3) ((rd_T24 l0 a1).f4)) else (posternref02_Plain.j1 kj2 l0 a1 (((rd_T24 l0 a1).f4) != 0) ((rd_T24 l0 a1).f0) ((rd_T24 l0 a1).f1) ((rd_T24 l0 a1).f2) ((rd_T24 l0 a1).f3) ((rd_T24 l0 a1).f4))) else (if ((rd_T24 l0 a1).f3) = 0 then (if t165 = true then (posternref02_Plain.j1 kj2 l0 a1 false ((rd_T24 l0 a1).f0) ((rd_T24 l0 a1).f1) ((rd_T24 l0 a1).f2) ((rd_T24 l0 a1).f3) ((rd_T24 l0 a1).f4)) else (posternref02_Plain.j1 kj2 l0 a1 (((rd_T24 l0 a1).f4) != 0) ((rd_T24 l0 a1).f0) ((rd_T24 l0 a1).f1) ((rd_T24 l0 a1).f2) ((rd_T24 l0 a1).f3) ((rd_T24 l0 a1).f4))) else (posternref02_Plain.j1 kj2 l0 a1 true ((rd_T24 l0 a1).f0) ((rd_T24 l0 a1).f1) ((rd_T24 l0 a1).f2) ((rd_T24 l0 a1).f3) ((rd_T24 l0 a1).f4)))) else (posternref02_Plain.j1 kj2 l0 a1 true ((rd_T24 l0 a1).f0) ((rd_T24 l0 a1).f1) ((rd_T24 l0 a1).f2) ((rd_T24 l0 a1).f3) ((rd_T24 l0 a1).f4))) = some (r1, r2) := by rw [if_neg (show ¬ (false = true) by decide)] at H; exact H
                      clear H
                      have H := H1
                      clear H1
                      by_cases c47 : ((rd_T24 l0 a1).f2) = 0
                      · rw [if_pos c47] at H
                        have c47b0 : (((rd_T24 l0 a1).f2) == 0) = true := beq_iff_eq.mpr c47
                        have c47b1 : (((rd_T24 l0 a1).f2) != 0) = false := bne_eq_false_iff_eq.mpr c47
                        clear c47
                        by_cases c48 : t164 = true
                        · subst c48
                          have H1 : (if t165 = true then (posternref02_Plain.j1 kj2 l0 a1 false ((rd_T24 l0 a1).f0) ((rd_T24 l0 a1).f1) ((rd_T24 l0 a1).f2) ((rd_T24 l0 a1).f3) ((rd_T24 l0 a1).f4)) else (posternref02_Plain.j1 kj2 l0 a1 (((rd_T24 l0 a1).f4) != 0) ((rd_T24 l0 a1).f0) ((rd_T24 l0 a1).f1) ((rd_T24 l0 a1).f2) ((rd_T24 l0 a1).f3) ((rd_T24 l0 a1).f4))) = some (r1, r2) := by rw [if_pos rfl] at H; exact H
                          clear H
                          have H := H1
                          clear H1
                          by_cases c49 : t165 = true
                          · subst c49
                            have H1 : (posternref02_Plain.j1 kj2 l0 a1 false ((rd_T24 l0 a1).f0) ((rd_T24 l0 a1).f1) ((rd_T24 l0 a1).f2) ((rd_T24 l0 a1).f3) ((rd_T24 l0 a1).f4)) = some (r1, r2) := by rw [if_pos rfl] at H; exact H
                            clear H
                            have H := H1
                            clear H1
                            have H' := Aside0.mk H
                            clear H
                            have hnb50 := NB166_160.out
                            have hnc50 := NB160_166.out
                            have hcz51_0 : w15.cell? ⟨gb166, 0, none⟩ = some (.bool false) := (blk_cell BK166.out 0).trans rfl
                            have hcz51_1 : w15.cell? ⟨gb166, 1, none⟩ = some (.bool false) := (blk_cell BK166.out 1).trans rfl
                            have hcz51_2 : w15.cell? ⟨gb166, 2, none⟩ = some (.bool false) := (blk_cell BK166.out 2).trans rfl
                            have hcz51_3 : w15.cell? ⟨gb166, 3, none⟩ = some (.bool false) := (blk_cell BK166.out 3).trans rfl
                            have hfz51_0 := blk_frozen BK166.out 0
                            have hfz51_1 := blk_frozen BK166.out 1
                            have hfz51_2 := blk_frozen BK166.out 2
                            have hfz51_3 := blk_frozen BK166.out 3
                            have hcz52_0 : w15.cell? ⟨gb160, 0, none⟩ = some (.int .u8 ((rd_T24 l0 a1).f0)) := (blk_cell BK160.out 0).trans rfl
                            have hcz52_1 : w15.cell? ⟨gb160, 1, none⟩ = some (.int .u8 ((rd_T24 l0 a1).f1)) := (blk_cell BK160.out 1).trans rfl
                            have hcz52_2 : w15.cell? ⟨gb160, 2, none⟩ = some (.int .u8 ((rd_T24 l0 a1).f2)) := (blk_cell BK160.out 2).trans rfl
                            have hcz52_3 : w15.cell? ⟨gb160, 3, none⟩ = some (.int .i16 ((rd_T24 l0 a1).f3)) := (blk_cell BK160.out 3).trans rfl
                            have hcz52_4 : w15.cell? ⟨gb160, 4, none⟩ = some (.int .i32 ((rd_T24 l0 a1).f4)) := (blk_cell BK160.out 4).trans rfl
                            have hfz52_0 := blk_frozen BK160.out 0
                            have hfz52_1 := blk_frozen BK160.out 1
                            have hfz52_2 := blk_frozen BK160.out 2
                            have hfz52_3 := blk_frozen BK160.out 3
                            have hfz52_4 := blk_frozen BK160.out 4
                            go_wp2
                            go_meet
                            case rel => exact ⟨_, (false), (by first | rfl | (simp; done) | (simp [*]; done)), H', ⟨by have := HJ2.out; first | omega | exact Nat.le_refl _⟩, ⟨by (with_reducible repeat (first | refine blk_drewN ?_ _ | refine blk_drew ?_ | refine blk_alloc ?_ _)); refine blk_far ?_ NB160_166.out _; (with_reducible repeat (first | refine blk_drewN ?_ _ | refine blk_drew ?_ | refine blk_alloc ?_ _)); refine blk_far ?_ NB160_166.out _; (with_reducible repeat (first | refine blk_drewN ?_ _ | refine blk_drew ?_ | refine blk_alloc ?_ _)); refine blk_far ?_ NB160_166.out _; (with_reducible repeat (first | refine blk_drewN ?_ _ | refine blk_drew ?_ | refine blk_alloc ?_ _)); refine blk_far ?_ NB160_166.out _; (with_reducible repeat (first | refine blk_drewN ?_ _ | refine blk_drew ?_ | refine blk_alloc ?_ _)); exact BK160.out⟩, ⟨by (with_reducible repeat (first | refine blk_drewN ?_ _ | refine blk_drew ?_ | refine blk_alloc ?_ _)); refine blk_put (cs := #[.bool true, .bool false, .bool true, .bool false]) ?_ 3 _ rfl; (with_reducible repeat (first | refine blk_drewN ?_ _ | refine blk_drew ?_ | refine blk_alloc ?_ _)); refine blk_put (cs := #[.bool true, .bool false, .bool false, .bool false]) ?_ 2 _ rfl; (with_reducible repeat (first | refine blk_drewN ?_ _ | refine blk_drew ?_ | refine blk_alloc ?_ _)); refine blk_put (cs := #[.bool true, .bool false, .bool false, .bool false]) ?_ 1 _ rfl; (with_reducible repeat (first | refine blk_drewN ?_ _ | refine blk_drew ?_ | refine blk_alloc ?_ _)); refine blk_put (cs := #[.bool false, .bool false, .bool false, .bool false]) ?_ 0 _ rfl; (with_reducible repeat (first | refine blk_drewN ?_ _ | refine blk_drew ?_ | refine blk_alloc ?_ _)); exact BK166.out⟩, ⟨by repeat (first | (with_reducible first | exact HB.out | apply below_alloc | apply pw_below_drewN | apply below_drew1 | refine below_set ?_ GE160.out | refine below_set ?_ GE166.out) | exact HB.out)⟩⟩
                          · replace c49 := Bool.eq_false_iff.mpr c49
                            subst c49
                            have H1 : (posternref02_Plain.j1 kj2 l0 a1 (((rd_T24 l0 a1).f4) != 0) ((rd_T24 l0 a1).f0) ((rd_T24 l0 a1).f1) ((rd_T24 l0 a1).f2) ((rd_T24 l0 a1).f3) ((rd_T24 l0 a1).f4)) = some (r1, r2) := by rw [if_neg (show ¬ (false = true) by decide)] at H; exact H
                            clear H
                            have H := H1
                            clear H1
                            have H' := Aside0.mk H
                            clear H
                            have hnb53 := NB166_160.out
                            have hnc53 := NB160_166.out
                            have hcz54_0 : w15.cell? ⟨gb166, 0, none⟩ = some (.bool false) := (blk_cell BK166.out 0).trans rfl
                            have hcz54_1 : w15.cell? ⟨gb166, 1, none⟩ = some (.bool false) := (blk_cell BK166.out 1).trans rfl
                            have hcz54_2 : w15.cell? ⟨gb166, 2, none⟩ = some (.bool false) := (blk_cell BK166.out 2).trans rfl
                            have hcz54_3 : w15.cell? ⟨gb166, 3, none⟩ = some (.bool false) := (blk_cell BK166.out 3).trans rfl
                            have hfz54_0 := blk_frozen BK166.out 0
                            have hfz54_1 := blk_frozen BK166.out 1
                            have hfz54_2 := blk_frozen BK166.out 2
                            have hfz54_3 := blk_frozen BK166.out 3
                            have hcz55_0 : w15.cell? ⟨gb160, 0, none⟩ = some (.int .u8 ((rd_T24 l0 a1).f0)) := (blk_cell BK160.out 0).trans rfl
                            have hcz55_1 : w15.cell? ⟨gb160, 1, none⟩ = some (.int .u8 ((rd_T24 l0 a1).f1)) := (blk_cell BK160.out 1).trans rfl
                            have hcz55_2 : w15.cell? ⟨gb160, 2, none⟩ = some (.int .u8 ((rd_T24 l0 a1).f2)) := (blk_cell BK160.out 2).trans rfl
                            have hcz55_3 : w15.cell? ⟨gb160, 3, none⟩ = some (.int .i16 ((rd_T24 l0 a1).f3)) := (blk_cell BK160.out 3).trans rfl
                            have hcz55_4 : w15.cell? ⟨gb160, 4, none⟩ = some (.int .i32 ((rd_T24 l0 a1).f4)) := (blk_cell BK160.out 4).trans rfl
                            have hfz55_0 := blk_frozen BK160.out 0
                            have hfz55_1 := blk_frozen BK160.out 1
                            have hfz55_2 := blk_frozen BK160.out 2
                            have hfz55_3 := blk_frozen BK160.out 3
                            have hfz55_4 := blk_frozen BK160.out 4
                            go_wp2
                            go_meet
                            case rel => exact ⟨_, ((((rd_T24 l0 a1).f4) != 0)), (by first | rfl | (simp; done) | (simp [*]; done)), H', ⟨by have := HJ2.out; first | omega | exact Nat.le_refl _⟩, ⟨by (with_reducible repeat (first | refine blk_drewN ?_ _ | refine blk_drew ?_ | refine blk_alloc ?_ _)); refine blk_far ?_ NB160_166.out _; (with_reducible repeat (first | refine blk_drewN ?_ _ | refine blk_drew ?_ | refine blk_alloc ?_ _)); refine blk_far ?_ NB160_166.out _; (with_reducible repeat (first | refine blk_drewN ?_ _ | refine blk_drew ?_ | refine blk_alloc ?_ _)); refine blk_far ?_ NB160_166.out _; (with_reducible repeat (first | refine blk_drewN ?_ _ | refine blk_drew ?_ | refine blk_alloc ?_ _)); refine blk_far ?_ NB160_166.out _; (with_reducible repeat (first | refine blk_drewN ?_ _ | refine blk_drew ?_ | refine blk_alloc ?_ _)); exact BK160.out⟩, ⟨by (with_reducible repeat (first | refine blk_drewN ?_ _ | refine blk_drew ?_ | refine blk_alloc ?_ _)); refine blk_put (cs := #[.bool true, .bool false, .bool true, .bool false]) ?_ 3 _ rfl; (with_reducible repeat (first | refine blk_drewN ?_ _ | refine blk_drew ?_ | refine blk_alloc ?_ _)); refine blk_put (cs := #[.bool true, .bool false, .bool false, .bool false]) ?_ 2 _ rfl; (with_reducible repeat (first | refine blk_drewN ?_ _ | refine blk_drew ?_ | refine blk_alloc ?_ _)); refine blk_put (cs := #[.bool true, .bool false, .bool false, .bool false]) ?_ 1 _ rfl; (with_reducible repeat (first | refine blk_drewN ?_ _ | refine blk_drew ?_ | refine blk_alloc ?_ _)); refine blk_put (cs := #[.bool false, .bool false, .bool false, .bool false]) ?_ 0 _ rfl; (with_reducible repeat (first | refine blk_drewN ?_ _ | refine blk_drew ?_ | refine blk_alloc ?_ _)); exact BK166.out⟩, ⟨by repeat (first | (with_reducible first | exact HB.out | apply below_alloc | apply pw_below_drewN | apply below_drew1 | refine below_set ?_ GE160.out | refine below_set ?_ GE166.out) | exact HB.out)⟩⟩
                        · replace c48 := Bool.eq_false_iff.mpr c48
                          subst c48
                          have H1 : (if ((rd_T24 l0 a1).f3) = 0 then (if t165 = true then (posternref02_Plain.j1 kj2 l0 a1 false ((rd_T24 l0 a1).f0) ((rd_T24 l0 a1).f1) ((rd_T24 l0 a1).f2) ((rd_T24 l0 a1).f3) ((rd_T24 l0 a1).f4)) else (posternref02_Plain.j1 kj2 l0 a1 (((rd_T24 l0 a1).f4) != 0) ((rd_T24 l0 a1).f0) ((rd_T24 l0 a1).f1) ((rd_T24 l0 a1).f2) ((rd_T24 l0 a1).f3) ((rd_T24 l0 a1).f4))) else (posternref02_Plain.j1 kj2 l0 a1 true ((rd_T24 l0 a1).f0) ((rd_T24 l0 a1).f1) ((rd_T24 l0 a1).f2) ((rd_T24 l0 a1).f3) ((rd_T24 l0 a1).f4))) = some (r1, r2) := by rw [if_neg (show ¬ (false = true) by decide)] at H; exact H
                          clear H
                          have H := H1
                          clear H1
                          by_cases c56 : ((rd_T24 l0 a1).f3) = 0
                          · rw [if_pos c56] at H
                            have c56b0 : (((rd_T24 l0 a1).f3) == 0) = true := beq_iff_eq.mpr c56
                            have c56b1 : (((rd_T24 l0 a1).f3) != 0) = false := bne_eq_false_iff_eq.mpr c56
                            clear c56
                            by_cases c57 : t165 = true
                            · subst c57
                              have H1 : (posternref02_Plain.j1 kj2 l0 a1 false ((rd_T24 l0 a1).f0) ((rd_T24 l0 a1).f1) ((rd_T24 l0 a1).f2) ((rd_T24 l0 a1).f3) ((rd_T24 l0 a1).f4)) = some (r1, r2) := by rw [if_pos rfl] at H; exact H
                              clear H
                              have H := H1
                              clear H1
                              have H' := Aside0.mk H
                              clear H
                              have hnb58 := NB166_160.out
                              have hnc58 := NB160_166.out
                              have hcz59_0 : w15.cell? ⟨gb166, 0, none⟩ = some (.bool false) := (blk_cell BK166.out 0).trans rfl
                              have hcz59_1 : w15.cell? ⟨gb166, 1, none⟩ = some (.bool false) := (blk_cell BK166.out 1).trans rfl
                              have hcz59_2 : w15.cell? ⟨gb166, 2, none⟩ = some (.bool false) := (blk_cell BK166.out 2).trans rfl
                              have hcz59_3 : w15.cell? ⟨gb166, 3, none⟩ = some (.bool false) := (blk_cell BK166.out 3).trans rfl
                              have hfz59_0 := blk_frozen BK166.out 0
                              have hfz59_1 := blk_frozen BK166.out 1
                              have hfz59_2 := blk_frozen BK166.out 2
                              have hfz59_3 := blk_frozen BK166.out 3
                              have hcz60_0 : w15.cell? ⟨gb160, 0, none⟩ = some (.int .u8 ((rd_T24 l0 a1).f0)) := (blk_cell BK160.out 0).trans rfl
                              have hcz60_1 : w15.cell? ⟨gb160, 1, none⟩ = some (.int .u8 ((rd_T24 l0 a1).f1)) := (blk_cell BK160.out 1).trans rfl
                              have hcz60_2 : w15.cell? ⟨gb160, 2, none⟩ = some (.int .u8 ((rd_T24 l0 a1).f2)) := (blk_cell BK160.out 2).trans rfl
                              have hcz60_3 : w15.cell? ⟨gb160, 3, none⟩ = some (.int .i16 ((rd_T24 l0 a1).f3)) := (blk_cell BK160.out 3).trans rfl
                              have hcz60_4 : w15.cell? ⟨gb160, 4, none⟩ = some (.int .i32 ((rd_T24 l0 a1).f4)) := (blk_cell BK160.out 4).trans rfl
                              have hfz60_0 := blk_frozen BK160.out 0
                              have hfz60_1 := blk_frozen BK160.out 1
                              have hfz60_2 := blk_frozen BK160.out 2
                              have hfz60_3 := blk_frozen BK160.out 3
                              have hfz60_4 := blk_frozen BK160.out 4
                              go_wp2
                              go_meet
                              case rel => exact ⟨_, (false), (by first | rfl | (simp; done) | (simp [*]; done)), H', ⟨by have := HJ2.out; first | omega | exact Nat.le_refl _⟩, ⟨by (with_reducible repeat (first | refine blk_drewN ?_ _ | refine blk_drew ?_ | refine blk_alloc ?_ _)); refine blk_far ?_ NB160_166.out _; (with_reducible repeat (first | refine blk_drewN ?_ _ | refine blk_drew ?_ | refine blk_alloc ?_ _)); refine blk_far ?_ NB160_166.out _; (with_reducible repeat (first | refine blk_drewN ?_ _ | refine blk_drew ?_ | refine blk_alloc ?_ _)); refine blk_far ?_ NB160_166.out _; (with_reducible repeat (first | refine blk_drewN ?_ _ | refine blk_drew ?_ | refine blk_alloc ?_ _)); refine blk_far ?_ NB160_166.out _; (with_reducible repeat (first | refine blk_drewN ?_ _ | refine blk_drew ?_ | refine blk_alloc ?_ _)); exact BK160.out⟩, ⟨by (with_reducible repeat (first | refine blk_drewN ?_ _ | refine blk_drew ?_ | refine blk_alloc ?_ _)); refine blk_put (cs := #[.bool true, .bool false, .bool false, .bool false]) ?_ 3 _ rfl; (with_reducible repeat (first | refine blk_drewN ?_ _ | refine blk_drew ?_ | refine blk_alloc ?_ _)); refine blk_put (cs := #[.bool true, .bool false, .bool false, .bool false]) ?_ 2 _ rfl; (with_reducible repeat (first | refine blk_drewN ?_ _ | refine blk_drew ?_ | refine blk_alloc ?_ _)); refine blk_put (cs := #[.bool true, .bool false, .bool false, .bool false]) ?_ 1 _ rfl; (with_reducible repeat (first | refine blk_drewN ?_ _ | refine blk_drew ?_ | refine blk_alloc ?_ _)); refine blk_put (cs := #[.bool false, .bool false, .bool false, .bool false]) ?_ 0 _ rfl; (with_reducible repeat (first | refine blk_drewN ?_ _ | refine blk_drew ?_ | refine blk_alloc ?_ _)); exact BK166.out⟩, ⟨by repeat (first | (with_reducible first | exact HB.out | apply below_alloc | apply pw_below_drewN | apply below_drew1 | refine below_set ?_ GE160.out | refine below_set ?_ GE166.out) | exact HB.out)⟩⟩
                            · replace c57 := Bool.eq_false_iff.mpr c57
                              subst c57
                              have H1 : (posternref02_Plain.j1 kj2 l0 a1 (((rd_T24 l0 a1).f4) != 0) ((rd_T24 l0 a1).f0) ((rd_T24 l0 a1).f1) ((rd_T24 l0 a1).f2) ((rd_T24 l0 a1).f3) ((rd_T24 l0 a1).f4)) = some (r1, r2) := by rw [if_neg (show ¬ (false = true) by decide)] at H; exact H
                              clear H
                              have H := H1
                              clear H1
                              have H' := Aside0.mk H
                              clear H
                              have hnb61 := NB166_160.out
                              have hnc61 := NB160_166.out
                              have hcz62_0 : w15.cell? ⟨gb166, 0, none⟩ = some (.bool false) := (blk_cell BK166.out 0).trans rfl
                              have hcz62_1 : w15.cell? ⟨gb166, 1, none⟩ = some (.bool false) := (blk_cell BK166.out 1).trans rfl
                              have hcz62_2 : w15.cell? ⟨gb166, 2, none⟩ = some (.bool false) := (blk_cell BK166.out 2).trans rfl
                              have hcz62_3 : w15.cell? ⟨gb166, 3, none⟩ = some (.bool false) := (blk_cell BK166.out 3).trans rfl
                              have hfz62_0 := blk_frozen BK166.out 0
                              have hfz62_1 := blk_frozen BK166.out 1
                              have hfz62_2 := blk_frozen BK166.out 2
                              have hfz62_3 := blk_frozen BK166.out 3
                              have hcz63_0 : w15.cell? ⟨gb160, 0, none⟩ = some (.int .u8 ((rd_T24 l0 a1).f0)) := (blk_cell BK160.out 0).trans rfl
                              have hcz63_1 : w15.cell? ⟨gb160, 1, none⟩ = some (.int .u8 ((rd_T24 l0 a1).f1)) := (blk_cell BK160.out 1).trans rfl
                              have hcz63_2 : w15.cell? ⟨gb160, 2, none⟩ = some (.int .u8 ((rd_T24 l0 a1).f2)) := (blk_cell BK160.out 2).trans rfl
                              have hcz63_3 : w15.cell? ⟨gb160, 3, none⟩ = some (.int .i16 ((rd_T24 l0 a1).f3)) := (blk_cell BK160.out 3).trans rfl
                              have hcz63_4 : w15.cell? ⟨gb160, 4, none⟩ = some (.int .i32 ((rd_T24 l0 a1).f4)) := (blk_cell BK160.out 4).trans rfl
                              have hfz63_0 := blk_frozen BK160.out 0
                              have hfz63_1 := blk_frozen BK160.out 1
                              have hfz63_2 := blk_frozen BK160.out 2
                              have hfz63_3 := blk_frozen BK160.out 3
                              have hfz63_4 := blk_frozen BK160.out 4
                              go_wp2
                              go_meet
                              case rel => exact ⟨_, ((((rd_T24 l0 a1).f4) != 0)), (by first | rfl | (simp; done) | (simp [*]; done)), H', ⟨by have := HJ2.out; first | omega | exact Nat.le_refl _⟩, ⟨by (with_reducible repeat (first | refine blk_drewN ?_ _ | refine blk_drew ?_ | refine blk_alloc ?_ _)); refine blk_far ?_ NB160_166.out _; (with_reducible repeat (first | refine blk_drewN ?_ _ | refine blk_drew ?_ | refine blk_alloc ?_ _)); refine blk_far ?_ NB160_166.out _; (with_reducible repeat (first | refine blk_drewN ?_ _ | refine blk_drew ?_ | refine blk_alloc ?_ _)); refine blk_far ?_ NB160_166.out _; (with_reducible repeat (first | refine blk_drewN ?_ _ | refine blk_drew ?_ | refine blk_alloc ?_ _)); refine blk_far ?_ NB160_166.out _; (with_reducible repeat (first | refine blk_drewN ?_ _ | refine blk_drew ?_ | refine blk_alloc ?_ _)); exact BK160.out⟩, ⟨by (with_reducible repeat (first | refine blk_drewN ?_ _ | refine blk_drew ?_ | refine blk_alloc ?_ _)); refine blk_put (cs := #[.bool true, .bool false, .bool false, .bool false]) ?_ 3 _ rfl; (with_reducible repeat (first | refine blk_drewN ?_ _ | refine blk_drew ?_ | refine blk_alloc ?_ _)); refine blk_put (cs := #[.bool true, .bool false, .bool false, .bool false]) ?_ 2 _ rfl; (with_reducible repeat (first | refine blk_drewN ?_ _ | refine blk_drew ?_ | refine blk_alloc ?_ _)); refine blk_put (cs := #[.bool true, .bool false, .bool false, .bool false]) ?_ 1 _ rfl; (with_reducible repeat (first | refine blk_drewN ?_ _ | refine blk_drew ?_ | refine blk_alloc ?_ _)); refine blk_put (cs := #[.bool false, .bool false, .bool false, .bool false]) ?_ 0 _ rfl; (with_reducible repeat (first | refine blk_drewN ?_ _ | refine blk_drew ?_ | refine blk_alloc ?_ _)); exact BK166.out⟩, ⟨by repeat (first | (with_reducible first | exact HB.out | apply below_alloc | apply pw_below_drewN | apply below_drew1 | refine below_set ?_ GE160.out | refine below_set ?_ GE166.out) | exact HB.out)⟩⟩
                          · rw [if_neg c56] at H
                            have c56b0 : (((rd_T24 l0 a1).f3) == 0) = false := beq_eq_false_iff_ne.mpr c56
                            have c56b1 : (((rd_T24 l0 a1).f3) != 0) = true := bne_iff_ne.mpr c56
                            have H' := Aside0.mk H
                            clear H
                            have hnb64 := NB166_160.out
                            have hnc64 := NB160_166.out
                            have hcz65_0 : w15.cell? ⟨gb166, 0, none⟩ = some (.bool false) := (blk_cell BK166.out 0).trans rfl
                            have hcz65_1 : w15.cell? ⟨gb166, 1, none⟩ = some (.bool false) := (blk_cell BK166.out 1).trans rfl
                            have hcz65_2 : w15.cell? ⟨gb166, 2, none⟩ = some (.bool false) := (blk_cell BK166.out 2).trans rfl
                            have hcz65_3 : w15.cell? ⟨gb166, 3, none⟩ = some (.bool false) := (blk_cell BK166.out 3).trans rfl
                            have hfz65_0 := blk_frozen BK166.out 0
                            have hfz65_1 := blk_frozen BK166.out 1
                            have hfz65_2 := blk_frozen BK166.out 2
                            have hfz65_3 := blk_frozen BK166.out 3
                            have hcz66_0 : w15.cell? ⟨gb160, 0, none⟩ = some (.int .u8 ((rd_T24 l0 a1).f0)) := (blk_cell BK160.out 0).trans rfl
                            have hcz66_1 : w15.cell? ⟨gb160, 1, none⟩ = some (.int .u8 ((rd_T24 l0 a1).f1)) := (blk_cell BK160.out 1).trans rfl
                            have hcz66_2 : w15.cell? ⟨gb160, 2, none⟩ = some (.int .u8 ((rd_T24 l0 a1).f2)) := (blk_cell BK160.out 2).trans rfl
                            have hcz66_3 : w15.cell? ⟨gb160, 3, none⟩ = some (.int .i16 ((rd_T24 l0 a1).f3)) := (blk_cell BK160.out 3).trans rfl
                            have hcz66_4 : w15.cell? ⟨gb160, 4, none⟩ = some (.int .i32 ((rd_T24 l0 a1).f4)) := (blk_cell BK160.out 4).trans rfl
                            have hfz66_0 := blk_frozen BK160.out 0
                            have hfz66_1 := blk_frozen BK160.out 1
                            have hfz66_2 := blk_frozen BK160.out 2
                            have hfz66_3 := blk_frozen BK160.out 3
                            have hfz66_4 := blk_frozen BK160.out 4
                            go_wp2
                            go_meet
                            case rel => exact ⟨_, (true), (by first | rfl | (simp; done) | (simp [*]; done)), H', ⟨by have := HJ2.out; first | omega | exact Nat.le_refl _⟩, ⟨by (with_reducible repeat (first | refine blk_drewN ?_ _ | refine blk_drew ?_ | refine blk_alloc ?_ _)); refine blk_far ?_ NB160_166.out _; (with_reducible repeat (first | refine blk_drewN ?_ _ | refine blk_drew ?_ | refine blk_alloc ?_ _)); refine blk_far ?_ NB160_166.out _; (with_reducible repeat (first | refine blk_drewN ?_ _ | refine blk_drew ?_ | refine blk_alloc ?_ _)); refine blk_far ?_ NB160_166.out _; (with_reducible repeat (first | refine blk_drewN ?_ _ | refine blk_drew ?_ | refine blk_alloc ?_ _)); refine blk_far ?_ NB160_166.out _; (with_reducible repeat (first | refine blk_drewN ?_ _ | refine blk_drew ?_ | refine blk_alloc ?_ _)); exact BK160.out⟩, ⟨by (with_reducible repeat (first | refine blk_drewN ?_ _ | refine blk_drew ?_ | refine blk_alloc ?_ _)); refine blk_put (cs := #[.bool true, .bool false, .bool false, .bool false]) ?_ 3 _ rfl; (with_reducible repeat (first | refine blk_drewN ?_ _ | refine blk_drew ?_ | refine blk_alloc ?_ _)); refine blk_put (cs := #[.bool true, .bool false, .bool false, .bool false]) ?_ 2 _ rfl; (with_reducible repeat (first | refine blk_drewN ?_ _ | refine blk_drew ?_ | refine blk_alloc ?_ _)); refine blk_put (cs := #[.bool true, .bool false, .bool false, .bool false]) ?_ 1 _ rfl; (with_reducible repeat (first | refine blk_drewN ?_ _ | refine blk_drew ?_ | refine blk_alloc ?_ _)); refine blk_put (cs := #[.bool false, .bool false, .bool false, .bool false]) ?_ 0 _ rfl; (with_reducible repeat (first | refine blk_drewN ?_ _ | refine blk_drew ?_ | refine blk_alloc ?_ _)); exact BK166.out⟩, ⟨by repeat (first | (with_reducible first | exact HB.out | apply below_alloc | apply pw_below_drewN | apply below_drew1 | refine below_set ?_ GE160.out | refine below_set ?_ GE166.out) | exact HB.out)⟩⟩
                      · rw [if_neg c47] at H
                        have c47b0 : (((rd_T24 l0 a1).f2) == 0) = false := beq_eq_false_iff_ne.mpr c47
                        have c47b1 : (((rd_T24 l0 a1).f2) != 0) = true := bne_iff_ne.mpr c47
                        have H' := Aside0.mk H
                        clear H
                        have hnb67 := NB166_160.out
                        have hnc67 := NB160_166.out
                        have hcz68_0 : w15.cell? ⟨gb166, 0, none⟩ = some (.bool false) := (blk_cell BK166.out 0).trans rfl
                        have hcz68_1 : w15.cell? ⟨gb166, 1, none⟩ = some (.bool false) := (blk_cell BK166.out 1).trans rfl
                        have hcz68_2 : w15.cell? ⟨gb166, 2, none⟩ = some (.bool false) := (blk_cell BK166.out 2).trans rfl
                        have hcz68_3 : w15.cell? ⟨gb166, 3, none⟩ = some (.bool false) := (blk_cell BK166.out 3).trans rfl
                        have hfz68_0 := blk_frozen BK166.out 0
                        have hfz68_1 := blk_frozen BK166.out 1
                        have hfz68_2 := blk_frozen BK166.out 2
                        have hfz68_3 := blk_frozen BK166.out 3
                        have hcz69_0 : w15.cell? ⟨gb160, 0, none⟩ = some (.int .u8 ((rd_T24 l0 a1).f0)) := (blk_cell BK160.out 0).trans rfl
                        have hcz69_1 : w15.cell? ⟨gb160, 1, none⟩ = some (.int .u8 ((rd_T24 l0 a1).f1)) := (blk_cell BK160.out 1).trans rfl
                        have hcz69_2 : w15.cell? ⟨gb160, 2, none⟩ = some (.int .u8 ((rd_T24 l0 a1).f2)) := (blk_cell BK160.out 2).trans rfl
                        have hcz69_3 : w15.cell? ⟨gb160, 3, none⟩ = some (.int .i16 ((rd_T24 l0 a1).f3)) := (blk_cell BK160.out 3).trans rfl
                        have hcz69_4 : w15.cell? ⟨gb160, 4, none⟩ = some (.int .i32 ((rd_T24 l0 a1).f4)) := (blk_cell BK160.out 4).trans rfl
                        have hfz69_0 := blk_frozen BK160.out 0
                        have hfz69_1 := blk_frozen BK160.out 1
                        have hfz69_2 := blk_frozen BK160.out 2
                        have hfz69_3 := blk_frozen BK160.out 3
                        have hfz69_4 := blk_frozen BK160.out 4
                        go_wp2
                        go_meet
                        case rel => exact ⟨_, (true), (by first | rfl | (simp; done) | (simp [*]; done)), H', ⟨by have := HJ2.out; first | omega | exact Nat.le_refl _⟩, ⟨by (with_reducible repeat (first | refine blk_drewN ?_ _ | refine blk_drew ?_ | refine blk_alloc ?_ _)); refine blk_far ?_ NB160_166.out _; (with_reducible repeat (first | refine blk_drewN ?_ _ | refine blk_drew ?_ | refine blk_alloc ?_ _)); refine blk_far ?_ NB160_166.out _; (with_reducible repeat (first | refine blk_drewN ?_ _ | refine blk_drew ?_ | refine blk_alloc ?_ _)); refine blk_far ?_ NB160_166.out _; (with_reducible repeat (first | refine blk_drewN ?_ _ | refine blk_drew ?_ | refine blk_alloc ?_ _)); refine blk_far ?_ NB160_166.out _; (with_reducible repeat (first | refine blk_drewN ?_ _ | refine blk_drew ?_ | refine blk_alloc ?_ _)); exact BK160.out⟩, ⟨by (with_reducible repeat (first | refine blk_drewN ?_ _ | refine blk_drew ?_ | refine blk_alloc ?_ _)); refine blk_put (cs := #[.bool true, .bool false, .bool t164, .bool false]) ?_ 3 _ rfl; (with_reducible repeat (first | refine blk_drewN ?_ _ | refine blk_drew ?_ | refine blk_alloc ?_ _)); refine blk_put (cs := #[.bool true, .bool false, .bool false, .bool false]) ?_ 2 _ rfl; (with_reducible repeat (first | refine blk_drewN ?_ _ | refine blk_drew ?_ | refine blk_alloc ?_ _)); refine blk_put (cs := #[.bool true, .bool false, .bool false, .bool false]) ?_ 1 _ rfl; (with_reducible repeat (first | refine blk_drewN ?_ _ | refine blk_drew ?_ | refine blk_alloc ?_ _)); refine blk_put (cs := #[.bool false, .bool false, .bool false, .bool false]) ?_ 0 _ rfl; (with_reducible repeat (first | refine blk_drewN ?_ _ | refine blk_drew ?_ | refine blk_alloc ?_ _)); exact BK166.out⟩, ⟨by repeat (first | (with_reducible first | exact HB.out | apply below_alloc | apply pw_below_drewN | apply below_drew1 | refine below_set ?_ GE160.out | refine below_set ?_ GE166.out) | exact HB.out)⟩⟩
                · replace c18 := Bool.eq_false_iff.mpr c18
                  subst c18
                  have H1 : (if ((rd_T24 l0 a1).f1) = 0 then (if t163 = true then (if ((rd_T24 l0 a1).f2) > 10 then (posternref02_Plain.j1 kj2 l0 a1 true ((rd_T24 l0 a1).f0) ((rd_T24 l0 a1).f1) ((rd_T24 l0 a1).f2) ((rd_T24 l0 a1).f3) ((rd_T24 l0 a1).f4)) else (if t164 = true then (if t165 = true then (posternref02_Plain.j1 kj2 l0 a1 false ((rd_T24 l0 a1).f0) ((rd_T24 l0 a1).f1) ((rd_T24 l0 a1).f2) ((rd_T24 l0 a1).f3) ((rd_T24 l0 a1).f4)) else (posternref02_Plain.j1 kj2 l0 a1 (((rd_T24 l0 a1).f4) != 0) ((rd_T24 l0 a1).f0) ((rd_T24 l0 a1).f1) ((rd_T24 l0 a1).f2) ((rd_T24 l0 a1).f3) ((rd_T24 l0 a1).f4))) else (if ((rd_T24 l0 a1).f3) = 0 then (if t165 = true then (posternref02_Plain.j1 kj2 l0 a1 false ((rd_T24 l0 a1).f0) ((rd_T24 l0 a1).f1) ((rd_T24 l0 a1).f2) ((rd_T24 l0 a1).f3) ((rd_T24 l0 a1).f4)) else (posternref02_Plain.j1 kj2 l0 a1 (((rd_T24 l0 a1).f4) != 0) ((rd_T24 l0 a1).f0) ((rd_T24 l0 a1).f1) ((rd_T24 l0 a1).f2) ((rd_T24 l0 a1).f3) ((rd_T24 l0 a1).f4))) else (posternref02_Plain.j1 kj2 l0 a1 true ((rd_T24 l0 a1).f0) ((rd_T24 l0 a1).f1) ((rd_T24 l0 a1).f2) ((rd_T24 l0 a1).f3) ((rd_T24 l0 a1).f4))))) else (if ((rd_T24 l0 a1).f2) = 0 then (if t164 = true then (if t165 = true then (posternref02_Plain.j1 kj2 l0 a1 false ((rd_T24 l0 a1).f0) ((rd_T24 l0 a1).f1) ((rd_T24 l0 a1).f2) ((rd_T24 l0 a1).f3) ((rd_T24 l0 a1).f4)) else (posternref02_Plain.j1 kj2 l0 a1 (((rd_T24 l0 a1).f4) != 0) ((rd_T24 l0 a1).f0) ((rd_T24 l0 a1).f1) ((rd_T24 l0 a1).f2) ((rd_T24 l0 a1).f3) ((rd_T24 l0 a1).f4))) else (if ((rd_T24 l0 a1).f3) = 0 then (if t165 = true then (posternref02_Plain.j1 kj2 l0 a1 false ((rd_T24 l0 a1).f0) ((rd_T24 l0 a1).f1) ((rd_T24 l0 a1).f2) ((rd_T24 l0 a1).f3) ((rd_T24 l0 a1).f4)) else (posternref02_Plain.j1 kj2 l0 a1 (((rd_T24 l0 a1).f4) != 0) ((rd_T24 l0 a1).f0) ((rd_T24 l0 a1).f1) ((rd_T24 l0 a1).f2) ((rd_T24 l0 a1).f3) ((rd_T24 l0 a1).f4))) else (posternref02_Plain.j1 kj2 l0 a1 true ((rd_T24 l0 a1).f0) ((rd_T24 l0 a1).f1) ((rd_T24 l0 a1).f2) ((rd_T24 l0 a1).f3) ((rd_T24 l0 a1).f4)))) else (posternref02_Plain.j1 kj2 l0 a1 true ((rd_T24 l0 a1).f0) ((rd_T24 l0 a1).f1) ((rd_T24 l0 a1).f2) ((rd_T24 l0 a1).f3) ((rd_T24 l0 a1).f4)))) else (posternref02_Plain.j1 kj2 l0 a1 true ((rd_T24 l0 a1).f0) ((rd_T24 l0 a1).f1) ((rd_T24 l0 a1).f2) ((rd_T24 l0 a1).f3) ((rd_T24 l0 a1).f4))) = some (r1, r2) := by rw [if_neg (show ¬ (false = true) by decide)] at H; exact H
                  clear H
                  have H := H1
                  clear H1
                  by_cases c70 : ((rd_T24 l0 a1).f1) = 0
                  · rw [if_pos c70] at H
                    have c70b0 : (((rd_T24 l0 a1).f1) == 0) = true := beq_iff_eq.mpr c70
                    have c70b1 : (((rd_T24 l0 a1).f1) != 0) = false := bne_eq_false_iff_eq.mpr c70
                    clear c70
                    by_cases c71 : t163 = true
                    · subst c71
                      have H1 : (if ((rd_T24 l0 a1).f2) > 10 then (posternref02_Plain.j1 kj2 l0 a1 true ((rd_T24 l0 a1).f0) ((rd_T24 l0 a1).f1) ((rd_T24 l0 a1).f2) ((rd_T24 l0 a1).f3) ((rd_T24 l0 a1).f4)) else (if t164 = true then (if t165 = true then (posternref02_Plain.j1 kj2 l0 a1 false ((rd_T24 l0 a1).f0) ((rd_T24 l0 a1).f1) ((rd_T24 l0 a1).f2) ((rd_T24 l0 a1).f3) ((rd_T24 l0 a1).f4)) else (posternref02_Plain.j1 kj2 l0 a1 (((rd_T24 l0 a1).f4) != 0) ((rd_T24 l0 a1).f0) ((rd_T24 l0 a1).f1) ((rd_T24 l0 a1).f2) ((rd_T24 l0 a1).f3) ((rd_T24 l0 a1).f4))) else (if ((rd_T24 l0 a1).f3) = 0 then (if t165 = true then (posternref02_Plain.j1 kj2 l0 a1 false ((rd_T24 l0 a1).f0) ((rd_T24 l0 a1).f1) ((rd_T24 l0 a1).f2) ((rd_T24 l0 a1).f3) ((rd_T24 l0 a1).f4)) else (posternref02_Plain.j1 kj2 l0 a1 (((rd_T24 l0 a1).f4) != 0) ((rd_T24 l0 a1).f0) ((rd_T24 l0 a1).f1) ((rd_T24 l0 a1).f2) ((rd_T24 l0 a1).f3) ((rd_T24 l0 a1).f4))) else (posternref02_Plain.j1 kj2 l0 a1 true ((rd_T24 l0 a1).f0) ((rd_T24 l0 a1).f1) ((rd_T24 l0 a1).f2) ((rd_T24 l0 a1).f3) ((rd_T24 l0 a1).f4))))) = some (r1, r2) := by rw [if_pos rfl] at H; exact H
                      clear H
                      have H := H1
                      clear H1
                      by_cases c72 : ((rd_T24 l0 a1).f2) > 10
                      · rw [if_pos c72] at H
                        have c72b0 : decide (10 < ((rd_T24 l0 a1).f2)) = true := decide_eq_true c72
                        clear c72
                        have H' := Aside0.mk H
                        clear H
                        have hnb73 := NB166_160.out
                        have hnc73 := NB160_166.out
                        have hcz74_0 : w15.cell? ⟨gb166, 0, none⟩ = some (.bool false) := (blk_cell BK166.out 0).trans rfl
                        have hcz74_1 : w15.cell? ⟨gb166, 1, none⟩ = some (.bool false) := (blk_cell BK166.out 1).trans rfl
                        have hcz74_2 : w15.cell? ⟨gb166, 2, none⟩ = some (.bool false) := (blk_cell BK166.out 2).trans rfl
                        have hcz74_3 : w15.cell? ⟨gb166, 3, none⟩ = some (.bool false) := (blk_cell BK166.out 3).trans rfl
                        have hfz74_0 := blk_frozen BK166.out 0
                        have hfz74_1 := blk_frozen BK166.out 1
                        have hfz74_2 := blk_frozen BK166.out 2
                        have hfz74_3 := blk_frozen BK166.out 3
                        have hcz75_0 : w15.cell? ⟨gb160, 0, none⟩ = some (.int .u8 ((rd_T24 l0 a1).f0)) := (blk_cell BK160.out 0).trans rfl
                        have hcz75_1 : w15.cell? ⟨gb160, 1, none⟩ = some (.int .u8 ((rd_T24 l0 a1).f1)) := (blk_cell BK160.out 1).trans rfl
                        have hcz75_2 : w15.cell? ⟨gb160, 2, none⟩ = some (.int .u8 ((rd_T24 l0 a1).f2)) := (blk_cell BK160.out 2).trans rfl
                        have hcz75_3 : w15.cell? ⟨gb160, 3, none⟩ = some (.int .i16 ((rd_T24 l0 a1).f3)) := (blk_cell BK160.out 3).trans rfl
                        have hcz75_4 : w15.cell? ⟨gb160, 4, none⟩ = some (.int .i32 ((rd_T24 l0 a1).f4)) := (blk_cell BK160.out 4).trans rfl
                        have hfz75_0 := blk_frozen BK160.out 0
                        have hfz75_1 := blk_frozen BK160.out 1
                        have hfz75_2 := blk_frozen BK160.out 2
                        have hfz75_3 := blk_frozen BK160.out 3
                        have hfz75_4 := blk_frozen BK160.out 4
                        go_wp2
                        go_meet
                        case rel => exact ⟨_, (true), (by first | rfl | (simp; done) | (simp [*]; done)), H', ⟨by have := HJ2.out; first | omega | exact Nat.le_refl _⟩, ⟨by (with_reducible repeat (first | refine blk_drewN ?_ _ | refine blk_drew ?_ | refine blk_alloc ?_ _)); refine blk_far ?_ NB160_166.out _; (with_reducible repeat (first | refine blk_drewN ?_ _ | refine blk_drew ?_ | refine blk_alloc ?_ _)); refine blk_far ?_ NB160_166.out _; (with_reducible repeat (first | refine blk_drewN ?_ _ | refine blk_drew ?_ | refine blk_alloc ?_ _)); refine blk_far ?_ NB160_166.out _; (with_reducible repeat (first | refine blk_drewN ?_ _ | refine blk_drew ?_ | refine blk_alloc ?_ _)); refine blk_far ?_ NB160_166.out _; (with_reducible repeat (first | refine blk_drewN ?_ _ | refine blk_drew ?_ | refine blk_alloc ?_ _)); exact BK160.out⟩, ⟨by (with_reducible repeat (first | refine blk_drewN ?_ _ | refine blk_drew ?_ | refine blk_alloc ?_ _)); refine blk_put (cs := #[.bool false, .bool true, .bool t164, .bool false]) ?_ 3 _ rfl; (with_reducible repeat (first | refine blk_drewN ?_ _ | refine blk_drew ?_ | refine blk_alloc ?_ _)); refine blk_put (cs := #[.bool false, .bool true, .bool false, .bool false]) ?_ 2 _ rfl; (with_reducible repeat (first | refine blk_drewN ?_ _ | refine blk_drew ?_ | refine blk_alloc ?_ _)); refine blk_put (cs := #[.bool false, .bool false, .bool false, .bool false]) ?_ 1 _ rfl; (with_reducible repeat (first | refine blk_drewN ?_ _ | refine blk_drew ?_ | refine blk_alloc ?_ _)); refine blk_put (cs := #[.bool false, .bool false, .bool false, .bool false]) ?_ 0 _ rfl; (with_reducible repeat (first | refine blk_drewN ?_ _ | refine blk_drew ?_ | refine blk_alloc ?_ _)); exact BK166.out⟩, ⟨by repeat (first | (with_reducible first | exact HB.out | apply below_alloc | apply pw_below_drewN | apply below_drew1 | refine below_set ?_ GE160.out | refine below_set ?_ GE166.out) | exact HB.out)⟩⟩
                      · rw [if_neg c72] at H
                        have c72b0 : decide (10 < ((rd_T24 l0 a1).f2)) = false := decide_eq_false c72
                        clear c72
                        by_cases c76 : t164 = true
                        · subst c76
                          have H1 : (if t165 = true then (posternref02_Plain.j1 kj2 l0 a1 false ((rd_T24 l0 a1).f0) ((rd_T24 l0 a1).f1) ((rd_T24 l0 a1).f2) ((rd_T24 l0 a1).f3) ((rd_T24 l0 a1).f4)) else (posternref02_Plain.j1 kj2 l0 a1 (((rd_T24 l0 a1).f4) != 0) ((rd_T24 l0 a1).f0) ((rd_T24 l0 a1).f1) ((rd_T24 l0 a1).f2) ((rd_T24 l0 a1).f3) ((rd_T24 l0 a1).f4))) = some (r1, r2) := by rw [if_pos rfl] at H; exact H
                          clear H
                          have H := H1
                          clear H1
                          by_cases c77 : t165 = true
                          · subst c77
                            have H1 : (posternref02_Plain.j1 kj2 l0 a1 false ((rd_T24 l0 a1).f0) ((rd_T24 l0 a1).f1) ((rd_T24 l0 a1).f2) ((rd_T24 l0 a1).f3) ((rd_T24 l0 a1).f4)) = some (r1, r2) := by rw [if_pos rfl] at H; exact H
                            clear H
                            have H := H1
                            clear H1
                            have H' := Aside0.mk H
                            clear H
                            have hnb78 := NB166_160.out
                            have hnc78 := NB160_166.out
                            have hcz79_0 : w15.cell? ⟨gb166, 0, none⟩ = some (.bool false) := (blk_cell BK166.out 0).trans rfl
                            have hcz79_1 : w15.cell? ⟨gb166, 1, none⟩ = some (.bool false) := (blk_cell BK166.out 1).trans rfl
                            have hcz79_2 : w15.cell? ⟨gb166, 2, none⟩ = some (.bool false) := (blk_cell BK166.out 2).trans rfl
                            have hcz79_3 : w15.cell? ⟨gb166, 3, none⟩ = some (.bool false) := (blk_cell BK166.out 3).trans rfl
                            have hfz79_0 := blk_frozen BK166.out 0
                            have hfz79_1 := blk_frozen BK166.out 1
                            have hfz79_2 := blk_frozen BK166.out 2
                            have hfz79_3 := blk_frozen BK166.out 3
                            have hcz80_0 : w15.cell? ⟨gb160, 0, none⟩ = some (.int .u8 ((rd_T24 l0 a1).f0)) := (blk_cell BK160.out 0).trans rfl
                            have hcz80_1 : w15.cell? ⟨gb160, 1, none⟩ = some (.int .u8 ((rd_T24 l0 a1).f1)) := (blk_cell BK160.out 1).trans rfl
                            have hcz80_2 : w15.cell? ⟨gb160, 2, none⟩ = some (.int .u8 ((rd_T24 l0 a1).f2)) := (blk_cell BK160.out 2).trans rfl
                            have hcz80_3 : w15.cell? ⟨gb160, 3, none⟩ = some (.int .i16 ((rd_T24 l0 a1).f3)) := (blk_cell BK160.out 3).trans rfl
                            have hcz80_4 : w15.cell? ⟨gb160, 4, none⟩ = some (.int .i32 ((rd_T24 l0 a1).f4)) := (blk_cell BK160.out 4).trans rfl
                            have hfz80_0 := blk_frozen BK160.out 0
                            have hfz80_1 := blk_frozen BK160.out 1
                            have hfz80_2 := blk_frozen BK160.out 2
                            have hfz80_3 := blk_frozen BK160.out 3
                            have hfz80_4 := blk_frozen BK160.out 4
                            go_wp2
                            go_meet
                            case rel => exact ⟨_, (false), (by first | rfl | (simp; done) | (simp [*]; done)), H', ⟨by have := HJ2.out; first | omega | exact Nat.le_refl _⟩, ⟨by (with_reducible repeat (first | refine blk_drewN ?_ _ | refine blk_drew ?_ | refine blk_alloc ?_ _)); refine blk_far ?_ NB160_166.out _; (with_reducible repeat (first | refine blk_drewN ?_ _ | refine blk_drew ?_ | refine blk_alloc ?_ _)); refine blk_far ?_ NB160_166.out _; (with_reducible repeat (first | refine blk_drewN ?_ _ | refine blk_drew ?_ | refine blk_alloc ?_ _)); refine blk_far ?_ NB160_166.out _; (with_reducible repeat (first | refine blk_drewN ?_ _ | refine blk_drew ?_ | refine blk_alloc ?_ _)); refine blk_far ?_ NB160_166.out _; (with_reducible repeat (first | refine blk_drewN ?_ _ | refine blk_drew ?_ | refine blk_alloc ?_ _)); exact BK160.out⟩, ⟨by (with_reducible repeat (first | refine blk_drewN ?_ _ | refine blk_drew ?_ | refine blk_alloc ?_ _)); refine blk_put (cs := #[.bool false, .bool true, .bool true, .bool false]) ?_ 3 _ rfl; (with_reducible repeat (first | refine blk_drewN ?_ _ | refine blk_drew ?_ | refine blk_alloc ?_ _)); refine blk_put (cs := #[.bool false, .bool true, .bool false, .bool false]) ?_ 2 _ rfl; (with_reducible repeat (first | refine blk_drewN ?_ _ | refine blk_drew ?_ | refine blk_alloc ?_ _)); refine blk_put (cs := #[.bool false, .bool false, .bool false, .bool false]) ?_ 1 _ rfl; (with_reducible repeat (first | refine blk_drewN ?_ _ | refine blk_drew ?_ | refine blk_alloc ?_ _)); refine blk_put (cs := #[.bool false, .bool false, .bool false, .bool false]) ?_ 0 _ rfl; (with_reducible repeat (first | refine blk_drewN ?_ _ | refine blk_drew ?_ | refine blk_alloc ?_ _)); exact BK166.out⟩, ⟨by repeat (first | (with_reducible first | exact HB.out | apply below_alloc | apply pw_below_drewN | apply below_drew1 | refine below_set ?_ GE160.out | refine below_set ?_ GE166.out) | exact HB.out)⟩⟩
                          · replace c77 := Bool.eq_false_iff.mpr c77
                            subst c77
                            have H1 : (posternref02_Plain.j1 kj2 l0 a1 (((rd_T24 l0 a1).f4) != 0) ((rd_T24 l0 a1).f0) ((rd_T24 l0 a1).f1) ((rd_T24 l0 a1).f2) ((rd_T24 l0 a1).f3) ((rd_T24 l0 a1).f4)) = some (r1, r2) := by rw [if_neg (show ¬ (false = true) by decide)] at H; exact H
                            clear H
                            have H := H1
                            clear H1
                            have H' := Aside0.mk H
                            clear H
                            have hnb81 := NB166_160.out
                            have hnc81 := NB160_166.out
                            have hcz82_0 : w15.cell? ⟨gb166, 0, none⟩ = some (.bool false) := (blk_cell BK166.out 0).trans rfl
                            have hcz82_1 : w15.cell? ⟨gb166, 1, none⟩ = some (.bool false) := (blk_cell BK166.out 1).trans rfl
                            have hcz82_2 : w15.cell? ⟨gb166, 2, none⟩ = some (.bool false) := (blk_cell BK166.out 2).trans rfl
                            have hcz82_3 : w15.cell? ⟨gb166, 3, none⟩ = some (.bool false) := (blk_cell BK166.out 3).trans rfl
                            have hfz82_0 := blk_frozen BK166.out 0
                            have hfz82_1 := blk_frozen BK166.out 1
                            have hfz82_2 := blk_frozen BK166.out 2
                            have hfz82_3 := blk_frozen BK166.out 3
                            have hcz83_0 : w15.cell? ⟨gb160, 0, none⟩ = some (.int .u8 ((rd_T24 l0 a1).f0)) := (blk_cell BK160.out 0).trans rfl
                            have hcz83_1 : w15.cell? ⟨gb160, 1, none⟩ = some (.int .u8 ((rd_T24 l0 a1).f1)) := (blk_cell BK160.out 1).trans rfl
                            have hcz83_2 : w15.cell? ⟨gb160, 2, none⟩ = some (.int .u8 ((rd_T24 l0 a1).f2)) := (blk_cell BK160.out 2).trans rfl
                            have hcz83_3 : w15.cell? ⟨gb160, 3, none⟩ = some (.int .i16 ((rd_T24 l0 a1).f3)) := (blk_cell BK160.out 3).trans rfl
                            have hcz83_4 : w15.cell? ⟨gb160, 4, none⟩ = some (.int .i32 ((rd_T24 l0 a1).f4)) := (blk_cell BK160.out 4).trans rfl
                            have hfz83_0 := blk_frozen BK160.out 0
                            have hfz83_1 := blk_frozen BK160.out 1
                            have hfz83_2 := blk_frozen BK160.out 2
                            have hfz83_3 := blk_frozen BK160.out 3
                            have hfz83_4 := blk_frozen BK160.out 4
                            go_wp2
                            go_meet
                            case rel => exact ⟨_, ((((rd_T24 l0 a1).f4) != 0)), (by first | rfl | (simp; done) | (simp [*]; done)), H', ⟨by have := HJ2.out; first | omega | exact Nat.le_refl _⟩, ⟨by (with_reducible repeat (first | refine blk_drewN ?_ _ | refine blk_drew ?_ | refine blk_alloc ?_ _)); refine blk_far ?_ NB160_166.out _; (with_reducible repeat (first | refine blk_drewN ?_ _ | refine blk_drew ?_ | refine blk_alloc ?_ _)); refine blk_far ?_ NB160_166.out _; (with_reducible repeat (first | refine blk_drewN ?_ _ | refine blk_drew ?_ | refine blk_alloc ?_ _)); refine blk_far ?_ NB160_166.out _; (with_reducible repeat (first | refine blk_drewN ?_ _ | refine blk_drew ?_ | refine blk_alloc ?_ _)); refine blk_far ?_ NB160_166.out _; (with_reducible repeat (first | refine blk_drewN ?_ _ | refine blk_drew ?_ | refine blk_alloc ?_ _)); exact BK160.out⟩, ⟨by (with_reducible repeat (first | refine blk_drewN ?_ _ | refine blk_drew ?_ | refine blk_alloc ?_ _)); refine blk_put (cs := #[.bool false, .bool true, .bool true, .bool false]) ?_ 3 _ rfl; (with_reducible repeat (first | refine blk_drewN ?_ _ | refine blk_drew ?_ | refine blk_alloc ?_ _)); refine blk_put (cs := #[.bool false, .bool true, .bool false, .bool false]) ?_ 2 _ rfl; (with_reducible repeat (first | refine blk_drewN ?_ _ | refine blk_drew ?_ | refine blk_alloc ?_ _)); refine blk_put (cs := #[.bool false, .bool false, .bool false, .bool false]) ?_ 1 _ rfl; (with_reducible repeat (first | refine blk_drewN ?_ _ | refine blk_drew ?_ | refine blk_alloc ?_ _)); refine blk_put (cs := #[.bool false, .bool false, .bool false, .bool false]) ?_ 0 _ rfl; (with_reducible repeat (first | refine blk_drewN ?_ _ | refine blk_drew ?_ | refine blk_alloc ?_ _)); exact BK166.out⟩, ⟨by repeat (first | (with_reducible first | exact HB.out | apply below_alloc | apply pw_below_drewN | apply below_drew1 | refine below_set ?_ GE160.out | refine below_set ?_ GE166.out) | exact HB.out)⟩⟩
                        · replace c76 := Bool.eq_false_iff.mpr c76
                          subst c76
                          have H1 : (if ((rd_T24 l0 a1).f3) = 0 then (if t165 = true then (posternref02_Plain.j1 kj2 l0 a1 false ((rd_T24 l0 a1).f0) ((rd_T24 l0 a1).f1) ((rd_T24 l0 a1).f2) ((rd_T24 l0 a1).f3) ((rd_T24 l0 a1).f4)) else (posternref02_Plain.j1 kj2 l0 a1 (((rd_T24 l0 a1).f4) != 0) ((rd_T24 l0 a1).f0) ((rd_T24 l0 a1).f1) ((rd_T24 l0 a1).f2) ((rd_T24 l0 a1).f3) ((rd_T24 l0 a1).f4))) else (posternref02_Plain.j1 kj2 l0 a1 true ((rd_T24 l0 a1).f0) ((rd_T24 l0 a1).f1) ((rd_T24 l0 a1).f2) ((rd_T24 l0 a1).f3) ((rd_T24 l0 a1).f4))) = some (r1, r2) := by rw [if_neg (show ¬ (false = true) by decide)] at H; exact H
                          clear H
                          have H := H1
                          clear H1
                          by_cases c84 : ((rd_T24 l0 a1).f3) = 0
                          · rw [if_pos c84] at H
                            have c84b0 : (((rd_T24 l0 a1).f3) == 0) = true := beq_iff_eq.mpr c84
                            have c84b1 : (((rd_T24 l0 a1).f3) != 0) = false := bne_eq_false_iff_eq.mpr c84
                            clear c84
                            by_cases c85 : t165 = true
                            · subst c85
                              have H1 : (posternref02_Plain.j1 kj2 l0 a1 false ((rd_T24 l0 a1).f0) ((rd_T24 l0 a1).f1) ((rd_T24 l0 a1).f2) ((rd_T24 l0 a1).f3) ((rd_T24 l0 a1).f4)) = some (r1, r2) := by rw [if_pos rfl] at H; exact H
                              clear H
                              have H := H1
                              clear H1
                              have H' := Aside0.mk H
                              clear H
                              have hnb86 := NB166_160.out
                              have hnc86 := NB160_166.out
                              have hcz87_0 : w15.cell? ⟨gb166, 0, none⟩ = some (.bool false) := (blk_cell BK166.out 0).trans rfl
                              have hcz87_1 : w15.cell? ⟨gb166, 1, none⟩ = some (.bool false) := (blk_cell BK166.out 1).trans rfl
                              have hcz87_2 : w15.cell? ⟨gb166, 2, none⟩ = some (.bool false) := (blk_cell BK166.out 2).trans rfl
                              have hcz87_3 : w15.cell? ⟨gb166, 3, none⟩ = some (.bool false) := (blk_cell BK166.out 3).trans rfl
                              have hfz87_0 := blk_frozen BK166.out 0
                              have hfz87_1 := blk_frozen BK166.out 1
                              have hfz87_2 := blk_frozen BK166.out 2
                              have hfz87_3 := blk_frozen BK166.out 3
                              have hcz88_0 : w15.cell? ⟨gb160, 0, none⟩ = some (.int .u8 ((rd_T24 l0 a1).f0)) := (blk_cell BK160.out 0).trans rfl
                              have hcz88_1 : w15.cell? ⟨gb160, 1, none⟩ = some (.int .u8 ((rd_T24 l0 a1).f1)) := (blk_cell BK160.out 1).trans rfl
                              have hcz88_2 : w15.cell? ⟨gb160, 2, none⟩ = some (.int .u8 ((rd_T24 l0 a1).f2)) := (blk_cell BK160.out 2).trans rfl
                              have hcz88_3 : w15.cell? ⟨gb160, 3, none⟩ = some (.int .i16 ((rd_T24 l0 a1).f3)) := (blk_cell BK160.out 3).trans rfl
                              have hcz88_4 : w15.cell? ⟨gb160, 4, none⟩ = some (.int .i32 ((rd_T24 l0 a1).f4)) := (blk_cell BK160.out 4).trans rfl
                              have hfz88_0 := blk_frozen BK160.out 0
                              have hfz88_1 := blk_frozen BK160.out 1
                              have hfz88_2 := blk_frozen BK160.out 2
                              have hfz88_3 := blk_frozen BK160.out 3
                              have hfz88_4 := blk_frozen BK160.out 4
                              go_wp2
                              go_meet
                              case rel => exact ⟨_, (false), (by first | rfl | (simp; done) | (simp [*]; done)), H', ⟨by have := HJ2.out; first | omega | exact Nat.le_refl _⟩, ⟨by (with_reducible repeat (first | refine blk_drewN ?_ _ | refine blk_drew ?_ | refine blk_alloc ?_ _)); refine blk_far ?_ NB160_166.out _; (with_reducible repeat (first | refine blk_drewN ?_ _ | refine blk_drew ?_ | refine blk_alloc ?_ _)); refine blk_far ?_ NB160_166.out _; (with_reducible repeat (first | refine blk_drewN ?_ _ | refine blk_drew ?_ | refine blk_alloc ?_ _)); refine blk_far ?_ NB160_166.out _; (with_reducible repeat (first | refine blk_drewN ?_ _ | refine blk_drew ?_ | refine blk_alloc ?_ _)); refine blk_far ?_ NB160_166.out _; (with_reducible repeat (first | refine blk_drewN ?_ _ | refine blk_drew ?_ | refine blk_alloc ?_ _)); exact BK160.out⟩, ⟨by (with_reducible repeat (first | refine blk_drewN ?_ _ | refine blk_drew ?_ | refine blk_alloc ?_ _)); refine blk_put (cs := #[.bool false, .bool true, .bool false, .bool false]) ?_ 3 _ rfl; (with_reducible repeat (first | refine blk_drewN ?_ _ | refine blk_drew ?_ | refine blk_alloc ?_ _)); refine blk_put (cs := #[.bool false, .bool true, .bool false, .bool false]) ?_ 2 _ rfl; (with_reducible repeat (first | refine blk_drewN ?_ _ | refine blk_drew ?_ | refine blk_alloc ?_ _)); refine blk_put (cs := #[.bool false, .bool false, .bool false, .bool false]) ?_ 1 _ rfl; (with_reducible repeat (first | refine blk_drewN ?_ _ | refine blk_drew ?_ | refine blk_alloc ?_ _)); refine blk_put (cs := #[.bool false, .bool false, .bool false, .bool false]) ?_ 0 _ rfl; (with_reducible repeat (first | refine blk_drewN ?_ _ | refine blk_drew ?_ | refine blk_alloc ?_ _)); exact BK166.out⟩, ⟨by repeat (first | (with_reducible first | exact HB.out | apply below_alloc | apply pw_below_drewN | apply below_drew1 | refine below_set ?_ GE160.out | refine below_set ?_ GE166.out) | exact HB.out)⟩⟩
                            · replace c85 := Bool.eq_false_iff.mpr c85
                              subst c85
                              have H1 : (posternref02_Plain.j1 kj2 l0 a1 (((rd_T24 l0 a1).f4) != 0) ((rd_T24 l0 a1).f0) ((rd_T24 l0 a1).f1) ((rd_T24 l0 a1).f2) ((rd_T24 l0 a1).f3) ((rd_T24 l0 a1).f4)) = some (r1, r2) := by rw [if_neg (show ¬ (false = true) by decide)] at H; exact H
                              clear H
                              have H := H1
                              clear H1
                              have H' := Aside0.mk H
                              clear H
                              have hnb89 := NB166_160.out
                              have hnc89 := NB160_166.out
                              have hcz90_0 : w15.cell? ⟨gb166, 0, none⟩ = some (.bool false) := (blk_cell BK166.out 0).trans rfl
                              have hcz90_1 : w15.cell? ⟨gb166, 1, none⟩ = some (.bool false) := (blk_cell BK166.out 1).trans rfl
                              have hcz90_2 : w15.cell? ⟨gb166, 2, none⟩ = some (.bool false) := (blk_cell BK166.out 2).trans rfl
                              have hcz90_3 : w15.cell? ⟨gb166, 3, none⟩ = some (.bool false) := (blk_cell BK166.out 3).trans rfl
                              have hfz90_0 := blk_frozen BK166.out 0
                              have hfz90_1 := blk_frozen BK166.out 1
                              have hfz90_2 := blk_frozen BK166.out 2
                              have hfz90_3 := blk_frozen BK166.out 3
                              have hcz91_0 : w15.cell? ⟨gb160, 0, none⟩ = some (.int .u8 ((rd_T24 l0 a1).f0)) := (blk_cell BK160.out 0).trans rfl
                              have hcz91_1 : w15.cell? ⟨gb160, 1, none⟩ = some (.int .u8 ((rd_T24 l0 a1).f1)) := (blk_cell BK160.out 1).trans rfl
                              have hcz91_2 : w15.cell? ⟨gb160, 2, none⟩ = some (.int .u8 ((rd_T24 l0 a1).f2)) := (blk_cell BK160.out 2).trans rfl
                              have hcz91_3 : w15.cell? ⟨gb160, 3, none⟩ = some (.int .i16 ((rd_T24 l0 a1).f3)) := (blk_cell BK160.out 3).trans rfl
                              have hcz91_4 : w15.cell? ⟨gb160, 4, none⟩ = some (.int .i32 ((rd_T24 l0 a1).f4)) := (blk_cell BK160.out 4).trans rfl
                              have hfz91_0 := blk_frozen BK160.out 0
                              have hfz91_1 := blk_frozen BK160.out 1
                              have hfz91_2 := blk_frozen BK160.out 2
                              have hfz91_3 := blk_frozen BK160.out 3
                              have hfz91_4 := blk_frozen BK160.out 4
                              go_wp2
                              go_meet
                              case rel => exact ⟨_, ((((rd_T24 l0 a1).f4) != 0)), (by first | rfl | (simp; done) | (simp [*]; done)), H', ⟨by have := HJ2.out; first | omega | exact Nat.le_refl _⟩, ⟨by (with_reducible repeat (first | refine blk_drewN ?_ _ | refine blk_drew ?_ | refine blk_alloc ?_ _)); refine blk_far ?_ NB160_166.out _; (with_reducible repeat (first | refine blk_drewN ?_ _ | refine blk_drew ?_ | refine blk_alloc ?_ _)); refine blk_far ?_ NB160_166.out _; (with_reducible repeat (first | refine blk_drewN ?_ _ | refine blk_drew ?_ | refine blk_alloc ?_ _)); refine blk_far ?_ NB160_166.out _; (with_reducible repeat (first | refine blk_drewN ?_ _ | refine blk_drew ?_ | refine blk_alloc ?_ _)); refine blk_far ?_ NB160_166.out _; (with_reducible repeat (first | refine blk_drewN ?_ _ | refine blk_drew ?_ | refine blk_alloc ?_ _)); exact BK160.out⟩, ⟨by (with_reducible repeat (first | refine blk_drewN ?_ _ | refine blk_drew ?_ | refine blk_alloc ?_ _)); refine blk_put (cs := #[.bool false, .bool true, .bool false, .bool false]) ?_ 3 _ rfl; (with_reducible repeat (first | refine blk_drewN ?_ _ | refine blk_drew ?_ | refine blk_alloc ?_ _)); refine blk_put (cs := #[.bool false, .bool true, .bool false, .bool false]) ?_ 2 _ rfl; (with_reducible repeat (first | refine blk_drewN ?_ _ | refine blk_drew ?_ | refine blk_alloc ?_ _)); refine blk_put (cs := #[.bool false, .bool false, .bool false, .bool false]) ?_ 1 _ rfl; (with_reducible repeat (first | refine blk_drewN ?_ _ | refine blk_drew ?_ | refine blk_alloc ?_ _)); refine blk_put (cs := #[.bool false, .bool false, .bool false, .bool false]) ?_ 0 _ rfl; (with_reducible repeat (first | refine blk_drewN ?_ _ | refine blk_drew ?_ | refine blk_alloc ?_ _)); exact BK166.out⟩, ⟨by repeat (first | (with_reducible first | exact HB.out | apply below_alloc | apply pw_below_drewN | apply below_drew1 | refine below_set ?_ GE160.out | refine below_set ?_ GE166.out) | exact HB.out)⟩⟩
                          · rw [if_neg c84] at H
                            have c84b0 : (((rd_T24 l0 a1).f3) == 0) = false := beq_eq_false_iff_ne.mpr c84
                            have c84b1 : (((rd_T24 l0 a1).f3) != 0) = true := bne_iff_ne.mpr c84
                            have H' := Aside0.mk H
                            clear H
                            have hnb92 := NB166_160.out
                            have hnc92 := NB160_166.out
                            have hcz93_0 : w15.cell? ⟨gb166, 0, none⟩ = some (.bool false) := (blk_cell BK166.out 0).trans rfl
                            have hcz93_1 : w15.cell? ⟨gb166, 1, none⟩ = some (.bool false) := (blk_cell BK166.out 1).trans rfl
                            have hcz93_2 : w15.cell? ⟨gb166, 2, none⟩ = some (.bool false) := (blk_cell BK166.out 2).trans rfl
                            have hcz93_3 : w15.cell? ⟨gb166, 3, none⟩ = some (.bool false) := (blk_cell BK166.out 3).trans rfl
                            have hfz93_0 := blk_frozen BK166.out 0
                            have hfz93_1 := blk_frozen BK166.out 1
                            have hfz93_2 := blk_frozen BK166.out 2
                            have hfz93_3 := blk_frozen BK166.out 3
                            have hcz94_0 : w15.cell? ⟨gb160, 0, none⟩ = some (.int .u8 ((rd_T24 l0 a1).f0)) := (blk_cell BK160.out 0).trans rfl
                            have hcz94_1 : w15.cell? ⟨gb160, 1, none⟩ = some (.int .u8 ((rd_T24 l0 a1).f1)) := (blk_cell BK160.out 1).trans rfl
                            have hcz94_2 : w15.cell? ⟨gb160, 2, none⟩ = some (.int .u8 ((rd_T24 l0 a1).f2)) := (blk_cell BK160.out 2).trans rfl
                            have hcz94_3 : w15.cell? ⟨gb160, 3, none⟩ = some (.int .i16 ((rd_T24 l0 a1).f3)) := (blk_cell BK160.out 3).trans rfl
                            have hcz94_4 : w15.cell? ⟨gb160, 4, none⟩ = some (.int .i32 ((rd_T24 l0 a1).f4)) := (blk_cell BK160.out 4).trans rfl
                            have hfz94_0 := blk_frozen BK160.out 0
                            have hfz94_1 := blk_frozen BK160.out 1
                            have hfz94_2 := blk_frozen BK160.out 2
                            have hfz94_3 := blk_frozen BK160.out 3
                            have hfz94_4 := blk_frozen BK160.out 4
                            go_wp2
                            go_meet
                            case rel => exact ⟨_, (true), (by first | rfl | (simp; done) | (simp [*]; done)), H', ⟨by have := HJ2.out; first | omega | exact Nat.le_refl _⟩, ⟨by (with_reducible repeat (first | refine blk_drewN ?_ _ | refine blk_drew ?_ | refine blk_alloc ?_ _)); refine blk_far ?_ NB160_166.out _; (with_reducible repeat (first | refine blk_drewN ?_ _ | refine blk_drew ?_ | refine blk_alloc ?_ _)); refine blk_far ?_ NB160_166.out _; (with_reducible repeat (first | refine blk_drewN ?_ _ | refine blk_drew ?_ | refine blk_alloc ?_ _)); refine blk_far ?_ NB160_166.out _; (with_reducible repeat (first | refine blk_drewN ?_ _ | refine blk_drew ?_ | refine blk_alloc ?_ _)); refine blk_far ?_ NB160_166.out _; (with_reducible repeat (first | refine blk_drewN ?_ _ | refine blk_drew ?_ | refine blk_alloc ?_ _)); exact BK160.out⟩, ⟨by (with_reducible repeat (first | refine blk_drewN ?_ _ | refine blk_drew ?_ | refine blk_alloc ?_ _)); refine blk_put (cs := #[.bool false, .bool true, .bool false, .bool false]) ?_ 3 _ rfl; (with_reducible repeat (first | refine blk_drewN ?_ _ | refine blk_drew ?_ | refine blk_alloc ?_ _)); refine blk_put (cs := #[.bool false, .bool true, .bool false, .bool false]) ?_ 2 _ rfl; (with_reducible repeat (first | refine blk_drewN ?_ _ | refine blk_drew ?_ | refine blk_alloc ?_ _)); refine blk_put (cs := #[.bool false, .bool false, .bool false, .bool false]) ?_ 1 _ rfl; (with_reducible repeat (first | refine blk_drewN ?_ _ | refine blk_drew ?_ | refine blk_alloc ?_ _)); refine blk_put (cs := #[.bool false, .bool false, .bool false, .bool false]) ?_ 0 _ rfl; (with_reducible repeat (first | refine blk_drewN ?_ _ | refine blk_drew ?_ | refine blk_alloc ?_ _)); exact BK166.out⟩, ⟨by repeat (first | (with_reducible first | exact HB.out | apply below_alloc | apply pw_below_drewN | apply below_drew1 | refine below_set ?_ GE160.out | refine below_set ?_ GE166.out) | exact HB.out)⟩⟩
                    · replace c71 := Bool.eq_false_iff.mpr c71
                      subst c71
                      have H1 : (if ((rd_T24 l0 a1).f2) = 0 then (if t164 = true then (if t165 = true then (posternref02_Plain.j1 kj2 l0 a1 false ((rd_T24 l0 a1).f0) ((rd_T24 l0 a1).f1) ((rd_T24 l0 a1).f2) ((rd_T24 l0 a1).f3) ((rd_T24 l0 a1).f4)) else (posternref02_Plain.j1 kj2 l0 a1 (((rd_T24 l0 a1).f4) != 0) ((rd_T24 l0 a1).f0) ((rd_T24 l0 a1).f1) ((rd_T24 l0 a1).f2) ((rd_T24 l0 a1).f3) ((rd_T24 l0 a1).f4))) else (if ((rd_T24 l0 a1).f3) = 0 then (if t165 = true then (posternref02_Plain.j1 kj2 l0 a1 false ((rd_T24 l0 a1).f0) ((rd_T24 l0 a1).f1) ((rd_T24 l0 a1).f2) ((rd_T24 l0 a1).f3) ((rd_T24 l0 a1).f4)) else (posternref02_Plain.j1 kj2 l0 a1 (((rd_T24 l0 a1).f4) != 0) ((rd_T24 l0 a1).f0) ((rd_T24 l0 a1).f1) ((rd_T24 l0 a1).f2) ((rd_T24 l0 a1).f3) ((rd_T24 l0 a1).f4))) else (posternref02_Plain.j1 kj2 l0 a1 true ((rd_T24 l0 a1).f0) ((rd_T24 l0 a1).f1) ((rd_T24 l0 a1).f2) ((rd_T24 l0 a1).f3) ((rd_T24 l0 a1).f4)))) else (posternref02_Plain.j1 kj2 l0 a1 true ((rd_T24 l0 a1).f0) ((rd_T24 l0 a1).f1) ((rd_T24 l0 a1).f2) ((rd_T24 l0 a1).f3) ((rd_T24 l0 a1).f4))) = some (r1, r2) := by rw [if_neg (show ¬ (false = true) by decide)] at H; exact H
                      clear H
                      have H := H1
                      clear H1
                      by_cases c95 : ((rd_T24 l0 a1).f2) = 0
                      · rw [if_pos c95] at H
                        have c95b0 : (((rd_T24 l0 a1).f2) == 0) = true := beq_iff_eq.mpr c95
                        have c95b1 : (((rd_T24 l0 a1).f2) != 0) = false := bne_eq_false_iff_eq.mpr c95
                        clear c95
                        by_cases c96 : t164 = true
                        · subst c96
                          have H1 : (if t165 = true then (posternref02_Plain.j1 kj2 l0 a1 false ((rd_T24 l0 a1).f0) ((rd_T24 l0 a1).f1) ((rd_T24 l0 a1).f2) ((rd_T24 l0 a1).f3) ((rd_T24 l0 a1).f4)) else (posternref02_Plain.j1 kj2 l0 a1 (((rd_T24 l0 a1).f4) != 0) ((rd_T24 l0 a1).f0) ((rd_T24 l0 a1).f1) ((rd_T24 l0 a1).f2) ((rd_T24 l0 a1).f3) ((rd_T24 l0 a1).f4))) = some (r1, r2) := by rw [if_pos rfl] at H; exact H
                          clear H
                          have H := H1
                          clear H1
                          by_cases c97 : t165 = true
                          · subst c97
                            have H1 : (posternref02_Plain.j1 kj2 l0 a1 false ((rd_T24 l0 a1).f0) ((rd_T24 l0 a1).f1) ((rd_T24 l0 a1).f2) ((rd_T24 l0 a1).f3) ((rd_T24 l0 a1).f4)) = some (r1, r2) := by rw [if_pos rfl] at H; exact H
                            clear H
                            have H := H1
                            clear H1
                            have H' := Aside0.mk H
                            clear H
                            have hnb98 := NB166_160.out
                            have hnc98 := NB160_166.out
                            have hcz99_0 : w15.cell? ⟨gb166, 0, none⟩ = some (.bool false) := (blk_cell BK166.out 0).trans rfl
                            have hcz99_1 : w15.cell? ⟨gb166, 1, none⟩ = some (.bool false) := (blk_cell BK166.out 1).trans rfl
                            have hcz99_2 : w15.cell? ⟨gb166, 2, none⟩ = some (.bool false) := (blk_cell BK166.out 2).trans rfl
                            have hcz99_3 : w15.cell? ⟨gb166, 3, none⟩ = some (.bool false) := (blk_cell BK166.out 3).trans rfl
                            have hfz99_0 := blk_frozen BK166.out 0
                            have hfz99_1 := blk_frozen BK166.out 1
                            have hfz99_2 := blk_frozen BK166.out 2
                            have hfz99_3 := blk_frozen BK166.out 3
                            have hcz100_0 : w15.cell? ⟨gb160, 0, none⟩ = some (.int .u8 ((rd_T24 l0 a1).f0)) := (blk_cell BK160.out 0).trans rfl
                            have hcz100_1 : w15.cell? ⟨gb160, 1, none⟩ = some (.int .u8 ((rd_T24 l0 a1).f1)) := (blk_cell BK160.out 1).trans rfl
                            have hcz100_2 : w15.cell? ⟨gb160, 2, none⟩ = some (.int .u8 ((rd_T24 l0 a1).f2)) := (blk_cell BK160.out 2).trans rfl
                            have hcz100_3 : w15.cell? ⟨gb160, 3, none⟩ = some (.int .i16 ((rd_T24 l0 a1).f3)) := (blk_cell BK160.out 3).trans rfl
                            have hcz100_4 : w15.cell? ⟨gb160, 4, none⟩ = some (.int .i32 ((rd_T24 l0 a1).f4)) := (blk_cell BK160.out 4).trans rfl
                            have hfz100_0 := blk_frozen BK160.out 0
                            have hfz100_1 := blk_frozen BK160.out 1
                            have hfz100_2 := blk_frozen BK160.out 2
                            have hfz100_3 := blk_frozen BK160.out 3
                            have hfz100_4 := blk_frozen BK160.out 4
                            go_wp2
                            go_meet
                            case rel => exact ⟨_, (false), (by first | rfl | (simp; done) | (simp [*]; done)), H', ⟨by have := HJ2.out; first | omega | exact Nat.le_refl _⟩, ⟨by (with_reducible repeat (first | refine blk_drewN ?_ _ | refine blk_drew ?_ | refine blk_alloc ?_ _)); refine blk_far ?_ NB160_166.out _; (with_reducible repeat (first | refine blk_drewN ?_ _ | refine blk_drew ?_ | refine blk_alloc ?_ _)); refine blk_far ?_ NB160_166.out _; (with_reducible repeat (first | refine blk_drewN ?_ _ | refine blk_drew ?_ | refine blk_alloc ?_ _)); refine blk_far ?_ NB160_166.out _; (with_reducible repeat (first | refine blk_drewN ?_ _ | refine blk_drew ?_ | refine blk_alloc ?_ _)); refine blk_far ?_ NB160_166.out _; (with_reducible repeat (first | refine blk_drewN ?_ _ | refine blk_drew ?_ | refine blk_alloc ?_ _)); exact BK160.out⟩, ⟨by (with_reducible repeat (first | refine blk_drewN ?_ _ | refine blk_drew ?_ | refine blk_alloc ?_ _)); refine blk_put (cs := #[.bool false, .bool false, .bool true, .bool false]) ?_ 3 _ rfl; (with_reducible repeat (first | refine blk_drewN ?_ _ | refine blk_drew ?_ | refine blk_alloc ?_ _)); refine blk_put (cs := #[.bool false, .bool false, .bool false, .bool false]) ?_ 2 _ rfl; (with_reducible repeat (first | refine blk_drewN ?_ _ | refine blk_drew ?_ | refine blk_alloc ?_ _)); refine blk_put (cs := #[.bool false, .bool false, .bool false, .bool false]) ?_ 1 _ rfl; (with_reducible repeat (first | refine blk_drewN ?_ _ | refine blk_drew ?_ | refine blk_alloc ?_ _)); refine blk_put (cs := #[.bool false, .bool false, .bool false, .bool false]) ?_ 0 _ rfl; (with_reducible repeat (first | refine blk_drewN ?_ _ | refine blk_drew ?_ | refine blk_alloc ?_ _)); exact BK166.out⟩, ⟨by repeat (first | (with_reducible first | exact HB.out | apply below_alloc | apply pw_below_drewN | apply below_drew1 | refine below_set ?_ GE160.out | refine below_set ?_ GE166.out) | exact HB.out)⟩⟩
                          · replace c97 := Bool.eq_false_iff.mpr c97
                            subst c97
                            have H1 : (posternref02_Plain.j1 kj2 l0 a1 (((rd_T24 l0 a1).f4) != 0) ((rd_T24 l0 a1).f0) ((rd_T24 l0 a1).f1) ((rd_T24 l0 a1).f2) ((rd_T24 l0 a1).f3) ((rd_T24 l0 a1).f4)) = some (r1, r2) := by rw [if_neg (show ¬ (false = true) by decide)] at H; exact H
                            clear H
                            have H := H1
                            clear H1
                            have H' := Aside0.mk H
                            clear H
                            have hnb101 := NB166_160.out
                            have hnc101 := NB160_166.out
                            have hcz102_0 : w15.cell? ⟨gb166, 0, none⟩ = some (.bool false) := (blk_cell BK166.out 0).trans rfl
                            have hcz102_1 : w15.cell? ⟨gb166, 1, none⟩ = some (.bool false) := (blk_cell BK166.out 1).trans rfl
                            have hcz102_2 : w15.cell? ⟨gb166, 2, none⟩ = some (.bool false) := (blk_cell BK166.out 2).trans rfl
                            have hcz102_3 : w15.cell? ⟨gb166, 3, none⟩ = some (.bool false) := (blk_cell BK166.out 3).trans rfl
                            have hfz102_0 := blk_frozen BK166.out 0
                            have hfz102_1 := blk_frozen BK166.out 1
                            have hfz102_2 := blk_frozen BK166.out 2
                            have hfz102_3 := blk_frozen BK166.out 3
                            have hcz103_0 : w15.cell? ⟨gb160, 0, none⟩ = some (.int .u8 ((rd_T24 l0 a1).f0)) := (blk_cell BK160.out 0).trans rfl
                            have hcz103_1 : w15.cell? ⟨gb160, 1, none⟩ = some (.int .u8 ((rd_T24 l0 a1).f1)) := (blk_cell BK160.out 1).trans rfl
                            have hcz103_2 : w15.cell? ⟨gb160, 2, none⟩ = some (.int .u8 ((rd_T24 l0 a1).f2)) := (blk_cell BK160.out 2).trans rfl
                            have hcz103_3 : w15.cell? ⟨gb160, 3, none⟩ = some (.int .i16 ((rd_T24 l0 a1).f3)) := (blk_cell BK160.out 3).trans rfl
                            have hcz103_4 : w15.cell? ⟨gb160, 4, none⟩ = some (.int .i32 ((rd_T24 l0 a1).f4)) := (blk_cell BK160.out 4).trans rfl
                            have hfz103_0 := blk_frozen BK160.out 0
                            have hfz103_1 := blk_frozen BK160.out 1
                            have hfz103_2 := blk_frozen BK160.out 2
                            have hfz103_3 := blk_frozen BK160.out 3
                            have hfz103_4 := blk_frozen BK160.out 4
                            go_wp2
                            go_meet
                            case rel => exact ⟨_, ((((rd_T24 l0 a1).f4) != 0)), (by first | rfl | (simp; done) | (simp [*]; done)), H', ⟨by have := HJ2.out; first | omega | exact Nat.le_refl _⟩, ⟨by (with_reducible repeat (first | refine blk_drewN ?_ _ | refine blk_drew ?_ | refine blk_alloc ?_ _)); refine blk_far ?_ NB160_166.out _; (with_reducible repeat (first | refine blk_drewN ?_ _ | refine blk_drew ?_ | refine blk_alloc ?_ _)); refine blk_far ?_ NB160_166.out _; (with_reducible repeat (first | refine blk_drewN ?_ _ | refine blk_drew ?_ | refine blk_alloc ?_ _)); refine blk_far ?_ NB160_166.out _; (with_reducible repeat (first | refine blk_drewN ?_ _ | refine blk_drew ?_ | refine blk_alloc ?_ _)); refine blk_far ?_ NB160_166.out _; (with_reducible repeat (first | refine blk_drewN ?_ _ | refine blk_drew ?_ | refine blk_alloc ?_ _)); exact BK160.out⟩, ⟨by (with_reducible repeat (first | refine blk_drewN ?_ _ | refine blk_drew ?_ | refine blk_alloc ?_ _)); refine blk_put (cs := #[.bool false, .bool false, .bool true, .bool false]) ?_ 3 _ rfl; (with_reducible repeat (first | refine blk_drewN ?_ _ | refine blk_drew ?_ | refine blk_alloc ?_ _)); refine blk_put (cs := #[.bool false, .bool false, .bool false, .bool false]) ?_ 2 _ rfl; (with_reducible repeat (first | refine blk_drewN ?_ _ | refine blk_drew ?_ | refine blk_alloc ?_ _)); refine blk_put (cs := #[.bool false, .bool false, .bool false, .bool false]) ?_ 1 _ rfl; (with_reducible repeat (first | refine blk_drewN ?_ _ | refine blk_drew ?_ | refine blk_alloc ?_ _)); refine blk_put (cs := #[.bool false, .bool false, .bool false, .bool false]) ?_ 0 _ rfl; (with_reducible repeat (first | refine blk_drewN ?_ _ | refine blk_drew ?_ | refine blk_alloc ?_ _)); exact BK166.out⟩, ⟨by repeat (first | (with_reducible first | exact HB.out | apply below_alloc | apply pw_below_drewN | apply below_drew1 | refine below_set ?_ GE160.out | refine below_set ?_ GE166.out) | exact HB.out)⟩⟩
                        · replace c96 := Bool.eq_false_iff.mpr c96
                          subst c96
                          have H1 : (if ((rd_T24 l0 a1).f3) = 0 then (if t165 = true then (posternref02_Plain.j1 kj2 l0 a1 false ((rd_T24 l0 a1).f0) ((rd_T24 l0 a1).f1) ((rd_T24 l0 a1).f2) ((rd_T24 l0 a1).f3) ((rd_T24 l0 a1).f4)) else (posternref02_Plain.j1 kj2 l0 a1 (((rd_T24 l0 a1).f4) != 0) ((rd_T24 l0 a1).f0) ((rd_T24 l0 a1).f1) ((rd_T24 l0 a1).f2) ((rd_T24 l0 a1).f3) ((rd_T24 l0 a1).f4))) else (posternref02_Plain.j1 kj2 l0 a1 true ((rd_T24 l0 a1).f0) ((rd_T24 l0 a1).f1) ((rd_T24 l0 a1).f2) ((rd_T24 l0 a1).f3) ((rd_T24 l0 a1).f4))) = some (r1, r2) := by rw [if_neg (show ¬ (false = true) by decide)] at H; exact H
                          clear H
                          have H := H1
                          clear H1
                          by_cases c104 : ((rd_T24 l0 a1).f3) = 0
                          · rw [if_pos c104] at H
                            have c104b0 : (((rd_T24 l0 a1).f3) == 0) = true := beq_iff_eq.mpr c104
                            have c104b1 : (((rd_T24 l0 a1).f3) != 0) = false := bne_eq_false_iff_eq.mpr c104
                            clear c104
                            by_cases c105 : t165 = true
                            · subst c105
                              have H1 : (posternref02_Plain.j1 kj2 l0 a1 false ((rd_T24 l0 a1).f0) ((rd_T24 l0 a1).f1) ((rd_T24 l0 a1).f2) ((rd_T24 l0 a1).f3) ((rd_T24 l0 a1).f4)) = some (r1, r2) := by rw [if_pos rfl] at H; exact H
                              clear H
                              have H := H1
                              clear H1
                              have H' := Aside0.mk H
                              clear H
                              have hnb106 := NB166_160.out
                              have hnc106 := NB160_166.out
                              have hcz107_0 : w15.cell? ⟨gb166, 0, none⟩ = some (.bool false) := (blk_cell BK166.out 0).trans rfl
                              have hcz107_1 : w15.cell? ⟨gb166, 1, none⟩ = some (.bool false) := (blk_cell BK166.out 1).trans rfl
                              have hcz107_2 : w15.cell? ⟨gb166, 2, none⟩ = some (.bool false) := (blk_cell BK166.out 2).trans rfl
                              have hcz107_3 : w15.cell? ⟨gb166, 3, none⟩ = some (.bool false) := (blk_cell BK166.out 3).trans rfl
                              have hfz107_0 := blk_frozen BK166.out 0
                              have hfz107_1 := blk_frozen BK166.out 1
                              have hfz107_2 := blk_frozen BK166.out 2
                              have hfz107_3 := blk_frozen BK166.out 3
                              have hcz108_0 : w15.cell? ⟨gb160, 0, none⟩ = some (.int .u8 ((rd_T24 l0 a1).f0)) := (blk_cell BK160.out 0).trans rfl
                              have hcz108_1 : w15.cell? ⟨gb160, 1, none⟩ = some (.int .u8 ((rd_T24 l0 a1).f1)) := (blk_cell BK160.out 1).trans rfl
                              have hcz108_2 : w15.cell? ⟨gb160, 2, none⟩ = some (.int .u8 ((rd_T24 l0 a1).f2)) := (blk_cell BK160.out 2).trans rfl
                              have hcz108_3 : w15.cell? ⟨gb160, 3, none⟩ = some (.int .i16 ((rd_T24 l0 a1).f3)) := (blk_cell BK160.out 3).trans rfl
                              have hcz108_4 : w15.cell? ⟨gb160, 4, none⟩ = some (.int .i32 ((rd_T24 l0 a1).f4)) := (blk_cell BK160.out 4).trans rfl
                              have hfz108_0 := blk_frozen BK160.out 0
                              have hfz108_1 := blk_frozen BK160.out 1
                              have hfz108_2 := blk_frozen BK160.out 2
                              have hfz108_3 := blk_frozen BK160.out 3
                              have hfz108_4 := blk_frozen BK160.out 4
                              go_wp2
                              go_meet
                              case rel => exact ⟨_, (false), (by first | rfl | (simp; done) | (simp [*]; done)), H', ⟨by have := HJ2.out; first | omega | exact Nat.le_refl _⟩, ⟨by (with_reducible repeat (first | refine blk_drewN ?_ _ | refine blk_drew ?_ | refine blk_alloc ?_ _)); refine blk_far ?_ NB160_166.out _; (with_reducible repeat (first | refine blk_drewN ?_ _ | refine blk_drew ?_ | refine blk_alloc ?_ _)); refine blk_far ?_ NB160_166.out _; (with_reducible repeat (first | refine blk_drewN ?_ _ | refine blk_drew ?_ | refine blk_alloc ?_ _)); refine blk_far ?_ NB160_166.out _; (with_reducible repeat (first | refine blk_drewN ?_ _ | refine blk_drew ?_ | refine blk_alloc ?_ _)); refine blk_far ?_ NB160_166.out _; (with_reducible repeat (first | refine blk_drewN ?_ _ | refine blk_drew ?_ | refine blk_alloc ?_ _)); exact BK160.out⟩, ⟨by (with_reducible repeat (first | refine blk_drewN ?_ _ | refine blk_drew ?_ | refine blk_alloc ?_ _)); refine blk_put (cs := #[.bool false, .bool false, .bool false, .bool false]) ?_ 3 _ rfl; (with_reducible repeat (first | refine blk_drewN ?_ _ | refine blk_drew ?_ | refine blk_alloc ?_ _)); refine blk_put (cs := #[.bool false, .bool false, .bool false, .bool false]) ?_ 2 _ rfl; (with_reducible repeat (first | refine blk_drewN ?_ _ | refine blk_drew ?_ | refine blk_alloc ?_ _)); refine blk_put (cs := #[.bool false, .bool false, .bool false, .bool false]) ?_ 1 _ rfl; (with_reducible repeat (first | refine blk_drewN ?_ _ | refine blk_drew ?_ | refine blk_alloc ?_ _)); refine blk_put (cs := #[.bool false, .bool false, .bool false, .bool false]) ?_ 0 _ rfl; (with_reducible repeat (first | refine blk_drewN ?_ _ | refine blk_drew ?_ | refine blk_alloc ?_ _)); exact BK166.out⟩, ⟨by repeat (first | (with_reducible first | exact HB.out | apply below_alloc | apply pw_below_drewN | apply below_drew1 | refine below_set ?_ GE160.out | refine below_set ?_ GE166.out) | exact HB.out)⟩⟩
                            · replace c105 := Bool.eq_false_iff.mpr c105
                              subst c105
                              have H1 : (posternref02_Plain.j1 kj2 l0 a1 (((rd_T24 l0 a1).f4) != 0) ((rd_T24 l0 a1).f0) ((rd_T24 l0 a1).f1) ((rd_T24 l0 a1).f2) ((rd_T24 l0 a1).f3) ((rd_T24 l0 a1).f4)) = some (r1, r2) := by rw [if_neg (show ¬ (false = true) by decide)] at H; exact H
                              clear H
                              have H := H1
                              clear H1
                              have H' := Aside0.mk H
                              clear H
                              have hnb109 := NB166_160.out
                              have hnc109 := NB160_166.out
                              have hcz110_0 : w15.cell? ⟨gb166, 0, none⟩ = some (.bool false) := (blk_cell BK166.out 0).trans rfl
                              have hcz110_1 : w15.cell? ⟨gb166, 1, none⟩ = some (.bool false) := (blk_cell BK166.out 1).trans rfl
                              have hcz110_2 : w15.cell? ⟨gb166, 2, none⟩ = some (.bool false) := (blk_cell BK166.out 2).trans rfl
                              have hcz110_3 : w15.cell? ⟨gb166, 3, none⟩ = some (.bool false) := (blk_cell BK166.out 3).trans rfl
                              have hfz110_0 := blk_frozen BK166.out 0
                              have hfz110_1 := blk_frozen BK166.out 1
                              have hfz110_2 := blk_frozen BK166.out 2
                              have hfz110_3 := blk_frozen BK166.out 3
                              have hcz111_0 : w15.cell? ⟨gb160, 0, none⟩ = some (.int .u8 ((rd_T24 l0 a1).f0)) := (blk_cell BK160.out 0).trans rfl
                              have hcz111_1 : w15.cell? ⟨gb160, 1, none⟩ = some (.int .u8 ((rd_T24 l0 a1).f1)) := (blk_cell BK160.out 1).trans rfl
                              have hcz111_2 : w15.cell? ⟨gb160, 2, none⟩ = some (.int .u8 ((rd_T24 l0 a1).f2)) := (blk_cell BK160.out 2).trans rfl
                              have hcz111_3 : w15.cell? ⟨gb160, 3, none⟩ = some (.int .i16 ((rd_T24 l0 a1).f3)) := (blk_cell BK160.out 3).trans rfl
                              have hcz111_4 : w15.cell? ⟨gb160, 4, none⟩ = some (.int .i32 ((rd_T24 l0 a1).f4)) := (blk_cell BK160.out 4).trans rfl
                              have hfz111_0 := blk_frozen BK160.out 0
                              have hfz111_1 := blk_frozen BK160.out 1
                              have hfz111_2 := blk_frozen BK160.out 2
                              have hfz111_3 := blk_frozen BK160.out 3
                              have hfz111_4 := blk_frozen BK160.out 4
                              go_wp2
                              go_meet
                              case rel => exact ⟨_, ((((rd_T24 l0 a1).f4) != 0)), (by first | rfl | (simp; done) | (simp [*]; done)), H', ⟨by have := HJ2.out; first | omega | exact Nat.le_refl _⟩, ⟨by (with_reducible repeat (first | refine blk_drewN ?_ _ | refine blk_drew ?_ | refine blk_alloc ?_ _)); refine blk_far ?_ NB160_166.out _; (with_reducible repeat (first | refine blk_drewN ?_ _ | refine blk_drew ?_ | refine blk_alloc ?_ _)); refine blk_far ?_ NB160_166.out _; (with_reducible repeat (first | refine blk_drewN ?_ _ | refine blk_drew ?_ | refine blk_alloc ?_ _)); refine blk_far ?_ NB160_166.out _; (with_reducible repeat (first | refine blk_drewN ?_ _ | refine blk_drew ?_ | refine blk_alloc ?_ _)); refine blk_far ?_ NB160_166.out _; (with_reducible repeat (first | refine blk_drewN ?_ _ | refine blk_drew ?_ | refine blk_alloc ?_ _)); exact BK160.out⟩, ⟨by (with_reducible repeat (first | refine blk_drewN ?_ _ | refine blk_drew ?_ | refine blk_alloc ?_ _)); refine blk_put (cs := #[.bool false, .bool false, .bool false, .bool false]) ?_ 3 _ rfl; (with_reducible repeat (first | refine blk_drewN ?_ _ | refine blk_drew ?_ | refine blk_alloc ?_ _)); refine blk_put (cs := #[.bool false, .bool false, .bool false, .bool false]) ?_ 2 _ rfl; (with_reducible repeat (first | refine blk_drewN ?_ _ | refine blk_drew ?_ | refine blk_alloc ?_ _)); refine blk_put (cs := #[.bool false, .bool false, .bool false, .bool false]) ?_ 1 _ rfl; (with_reducible repeat (first | refine blk_drewN ?_ _ | refine blk_drew ?_ | refine blk_alloc ?_ _)); refine blk_put (cs := #[.bool false, .bool false, .bool false, .bool false]) ?_ 0 _ rfl; (with_reducible repeat (first | refine blk_drewN ?_ _ | refine blk_drew ?_ | refine blk_alloc ?_ _)); exact BK166.out⟩, ⟨by repeat (first | (with_reducible first | exact HB.out | apply below_alloc | apply pw_below_drewN | apply below_drew1 | refine below_set ?_ GE160.out | refine below_set ?_ GE166.out) | exact HB.out)⟩⟩
                          · rw [if_neg c104] at H
                            have c104b0 : (((rd_T24 l0 a1).f3) == 0) = false := beq_eq_false_iff_ne.mpr c104
                            have c104b1 : (((rd_T24 l0 a1).f3) != 0) = true := bne_iff_ne.mpr c104
                            have H' := Aside0.mk H
                            clear H
                            have hnb112 := NB166_160.out
                            have hnc112 := NB160_166.out
                            have hcz113_0 : w15.cell? ⟨gb166, 0, none⟩ = some (.bool false) := (blk_cell BK166.out 0).trans rfl
                            have hcz113_1 : w15.cell? ⟨gb166, 1, none⟩ = some (.bool false) := (blk_cell BK166.out 1).trans rfl
                            have hcz113_2 : w15.cell? ⟨gb166, 2, none⟩ = some (.bool false) := (blk_cell BK166.out 2).trans rfl
                            have hcz113_3 : w15.cell? ⟨gb166, 3, none⟩ = some (.bool false) := (blk_cell BK166.out 3).trans rfl
                            have hfz113_0 := blk_frozen BK166.out 0
                            have hfz113_1 := blk_frozen BK166.out 1
                            have hfz113_2 := blk_frozen BK166.out 2
                            have hfz113_3 := blk_frozen BK166.out 3
                            have hcz114_0 : w15.cell? ⟨gb160, 0, none⟩ = some (.int .u8 ((rd_T24 l0 a1).f0)) := (blk_cell BK160.out 0).trans rfl
                            have hcz114_1 : w15.cell? ⟨gb160, 1, none⟩ = some (.int .u8 ((rd_T24 l0 a1).f1)) := (blk_cell BK160.out 1).trans rfl
                            have hcz114_2 : w15.cell? ⟨gb160, 2, none⟩ = some (.int .u8 ((rd_T24 l0 a1).f2)) := (blk_cell BK160.out 2).trans rfl
                            have hcz114_3 : w15.cell? ⟨gb160, 3, none⟩ = some (.int .i16 ((rd_T24 l0 a1).f3)) := (blk_cell BK160.out 3).trans rfl
                            have hcz114_4 : w15.cell? ⟨gb160, 4, none⟩ = some (.int .i32 ((rd_T24 l0 a1).f4)) := (blk_cell BK160.out 4).trans rfl
                            have hfz114_0 := blk_frozen BK160.out 0
                            have hfz114_1 := blk_frozen BK160.out 1
                            have hfz114_2 := blk_frozen BK160.out 2
                            have hfz114_3 := blk_frozen BK160.out 3
                            have hfz114_4 := blk_frozen BK160.out 4
                            go_wp2
                            go_meet
                            case rel => exact ⟨_, (true), (by first | rfl | (simp; done) | (simp [*]; done)), H', ⟨by have := HJ2.out; first | omega | exact Nat.le_refl _⟩, ⟨by (with_reducible repeat (first | refine blk_drewN ?_ _ | refine blk_drew ?_ | refine blk_alloc ?_ _)); refine blk_far ?_ NB160_166.out _; (with_reducible repeat (first | refine blk_drewN ?_ _ | refine blk_drew ?_ | refine blk_alloc ?_ _)); refine blk_far ?_ NB160_166.out _; (with_reducible repeat (first | refine blk_drewN ?_ _ | refine blk_drew ?_ | refine blk_alloc ?_ _)); refine blk_far ?_ NB160_166.out _; (with_reducible repeat (first | refine blk_drewN ?_ _ | refine blk_drew ?_ | refine blk_alloc ?_ _)); refine blk_far ?_ NB160_166.out _; (with_reducible repeat (first | refine blk_drewN ?_ _ | refine blk_drew ?_ | refine blk_alloc ?_ _)); exact BK160.out⟩, ⟨by (with_reducible repeat (first | refine blk_drewN ?_ _ | refine blk_drew ?_ | refine blk_alloc ?_ _)); refine blk_put (cs := #[.bool false, .bool false, .bool false, .bool false]) ?_ 3 _ rfl; (with_reducible repeat (first | refine blk_drewN ?_ _ | refine blk_drew ?_ | refine blk_alloc ?_ _)); refine blk_put (cs := #[.bool false, .bool false, .bool false, .bool false]) ?_ 2 _ rfl; (with_reducible repeat (first | refine blk_drewN ?_ _ | refine blk_drew ?_ | refine blk_alloc ?_ _)); refine blk_put (cs := #[.bool false, .bool false, .bool false, .bool false]) ?_ 1 _ rfl; (with_reducible repeat (first | refine blk_drewN ?_ _ | refine blk_drew ?_ | refine blk_alloc ?_ _)); refine blk_put (cs := #[.bool false, .bool false, .bool false, .bool false]) ?_ 0 _ rfl; (with_reducible repeat (first | refine blk_drewN ?_ _ | refine blk_drew ?_ | refine blk_alloc ?_ _)); exact BK166.out⟩, ⟨by repeat (first | (with_reducible first | exact HB.out | apply below_alloc | apply pw_below_drewN | apply below_drew1 | refine below_set ?_ GE160.out | refine below_set ?_ GE166.out) | exact HB.out)⟩⟩
                      · rw [if_neg c95] at H
                        have c95b0 : (((rd_T24 l0 a1).f2) == 0) = false := beq_eq_false_iff_ne.mpr c95
                        have c95b1 : (((rd_T24 l0 a1).f2) != 0) = true := bne_iff_ne.mpr c95
                        have H' := Aside0.mk H
                        clear H
                        have hnb115 := NB166_160.out
                        have hnc115 := NB160_166.out
                        have hcz116_0 : w15.cell? ⟨gb166, 0, none⟩ = some (.bool false) := (blk_cell BK166.out 0).trans rfl
                        have hcz116_1 : w15.cell? ⟨gb166, 1, none⟩ = some (.bool false) := (blk_cell BK166.out 1).trans rfl
                        have hcz116_2 : w15.cell? ⟨gb166, 2, none⟩ = some (.bool false) := (blk_cell BK166.out 2).trans rfl
                        have hcz116_3 : w15.cell? ⟨gb166, 3, none⟩ = some (.bool false) := (blk_cell BK166.out 3).trans rfl
                        have hfz116_0 := blk_frozen BK166.out 0
                        have hfz116_1 := blk_frozen BK166.out 1
                        have hfz116_2 := blk_frozen BK166.out 2
                        have hfz116_3 := blk_frozen BK166.out 3
                        have hcz117_0 : w15.cell? ⟨gb160, 0, none⟩ = some (.int .u8 ((rd_T24 l0 a1).f0)) := (blk_cell BK160.out 0).trans rfl
                        have hcz117_1 : w15.cell? ⟨gb160, 1, none⟩ = some (.int .u8 ((rd_T24 l0 a1).f1)) := (blk_cell BK160.out 1).trans rfl
                        have hcz117_2 : w15.cell? ⟨gb160, 2, none⟩ = some (.int .u8 ((rd_T24 l0 a1).f2)) := (blk_cell BK160.out 2).trans rfl
                        have hcz117_3 : w15.cell? ⟨gb160, 3, none⟩ = some (.int .i16 ((rd_T24 l0 a1).f3)) := (blk_cell BK160.out 3).trans rfl
                        have hcz117_4 : w15.cell? ⟨gb160, 4, none⟩ = some (.int .i32 ((rd_T24 l0 a1).f4)) := (blk_cell BK160.out 4).trans rfl
                        have hfz117_0 := blk_frozen BK160.out 0
                        have hfz117_1 := blk_frozen BK160.out 1
                        have hfz117_2 := blk_frozen BK160.out 2
                        have hfz117_3 := blk_frozen BK160.out 3
                        have hfz117_4 := blk_frozen BK160.out 4
                        go_wp2
                        go_meet
                        case rel => exact ⟨_, (true), (by first | rfl | (simp; done) | (simp [*]; done)), H', ⟨by have := HJ2.out; first | omega | exact Nat.le_refl _⟩, ⟨by (with_reducible repeat (first | refine blk_drewN ?_ _ | refine blk_drew ?_ | refine blk_alloc ?_ _)); refine blk_far ?_ NB160_166.out _; (with_reducible repeat (first | refine blk_drewN ?_ _ | refine blk_drew ?_ | refine blk_alloc ?_ _)); refine blk_far ?_ NB160_166.out _; (with_reducible repeat (first | refine blk_drewN ?_ _ | refine blk_drew ?_ | refine blk_alloc ?_ _)); refine blk_far ?_ NB160_166.out _; (with_reducible repeat (first | refine blk_drewN ?_ _ | refine blk_drew ?_ | refine blk_alloc ?_ _)); refine blk_far ?_ NB160_166.out _; (with_reducible repeat (first | refine blk_drewN ?_ _ | refine blk_drew ?_ | refine blk_alloc ?_ _)); exact BK160.out⟩, ⟨by (with_reducible repeat (first | refine blk_drewN ?_ _ | refine blk_drew ?_ | refine blk_alloc ?_ _)); refine blk_put (cs := #[.bool false, .bool false, .bool t164, .bool false]) ?_ 3 _ rfl; (with_reducible repeat (first | refine blk_drewN ?_ _ | refine blk_drew ?_ | refine blk_alloc ?_ _)); refine blk_put (cs := #[.bool false, .bool false, .bool false, .bool false]) ?_ 2 _ rfl; (with_reducible repeat (first | refine blk_drewN ?_ _ | refine blk_drew ?_ | refine blk_alloc ?_ _)); refine blk_put (cs := #[.bool false, .bool false, .bool false, .bool false]) ?_ 1 _ rfl; (with_reducible repeat (first | refine blk_drewN ?_ _ | refine blk_drew ?_ | refine blk_alloc ?_ _)); refine blk_put (cs := #[.bool false, .bool false, .bool false, .bool false]) ?_ 0 _ rfl; (with_reducible repeat (first | refine blk_drewN ?_ _ | refine blk_drew ?_ | refine blk_alloc ?_ _)); exact BK166.out⟩, ⟨by repeat (first | (with_reducible first | exact HB.out | apply below_alloc | apply pw_below_drewN | apply below_drew1 | refine below_set ?_ GE160.out | refine below_set ?_ GE166.out) | exact HB.out)⟩⟩
                  · rw [if_neg c70] at H
                    have c70b0 : (((rd_T24 l0 a1).f1) == 0) = false := beq_eq_false_iff_ne.mpr c70
                    have c70b1 : (((rd_T24 l0 a1).f1) != 0) = true := bne_iff_ne.mpr c70
                    have H' := Aside0.mk H
                    clear H
                    have hnb118 := NB166_160.out
                    have hnc118 := NB160_166.out
                    have hcz119_0 : w15.cell? ⟨gb166, 0, none⟩ = some (.bool false) := (blk_cell BK166.out 0).trans rfl
                    have hcz119_1 : w15.cell? ⟨gb166, 1, none⟩ = some (.bool false) := (blk_cell BK166.out 1).trans rfl
                    have hcz119_2 : w15.cell? ⟨gb166, 2, none⟩ = some (.bool false) := (blk_cell BK166.out 2).trans rfl
                    have hcz119_3 : w15.cell? ⟨gb166, 3, none⟩ = some (.bool false) := (blk_cell BK166.out 3).trans rfl
                    have hfz119_0 := blk_frozen BK166.out 0
                    have hfz119_1 := blk_frozen BK166.out 1
                    have hfz119_2 := blk_frozen BK166.out 2
                    have hfz119_3 := blk_frozen BK166.out 3
                    have hcz120_0 : w15.cell? ⟨gb160, 0, none⟩ = some (.int .u8 ((rd_T24 l0 a1).f0)) := (blk_cell BK160.out 0).trans rfl
                    have hcz120_1 : w15.cell? ⟨gb160, 1, none⟩ = some (.int .u8 ((rd_T24 l0 a1).f1)) := (blk_cell BK160.out 1).trans rfl
                    have hcz120_2 : w15.cell? ⟨gb160, 2, none⟩ = some (.int .u8 ((rd_T24 l0 a1).f2)) := (blk_cell BK160.out 2).trans rfl
                    have hcz120_3 : w15.cell? ⟨gb160, 3, none⟩ = some (.int .i16 ((rd_T24 l0 a1).f3)) := (blk_cell BK160.out 3).trans rfl
                    have hcz120_4 : w15.cell? ⟨gb160, 4, none⟩ = some (.int .i32 ((rd_T24 l0 a1).f4)) := (blk_cell BK160.out 4).trans rfl
                    have hfz120_0 := blk_frozen BK160.out 0
                    have hfz120_1 := blk_frozen BK160.out 1
                    have hfz120_2 := blk_frozen BK160.out 2
                    have hfz120_3 := blk_frozen BK160.out 3
                    have hfz120_4 := blk_frozen BK160.out 4
                    go_wp2
                    go_meet
                    case rel => exact ⟨_, (true), (by first | rfl | (simp; done) | (simp [*]; done)), H', ⟨by have := HJ2.out; first | omega | exact Nat.le_refl _⟩, ⟨by (with_reducible repeat (first | refine blk_drewN ?_ _ | refine blk_drew ?_ | refine blk_alloc ?_ _)); refine blk_far ?_ NB160_166.out _; (with_reducible repeat (first | refine blk_drewN ?_ _ | refine blk_drew ?_ | refine blk_alloc ?_ _)); refine blk_far ?_ NB160_166.out _; (with_reducible repeat (first | refine blk_drewN ?_ _ | refine blk_drew ?_ | refine blk_alloc ?_ _)); refine blk_far ?_ NB160_166.out _; (with_reducible repeat (first | refine blk_drewN ?_ _ | refine blk_drew ?_ | refine blk_alloc ?_ _)); refine blk_far ?_ NB160_166.out _; (with_reducible repeat (first | refine blk_drewN ?_ _ | refine blk_drew ?_ | refine blk_alloc ?_ _)); exact BK160.out⟩, ⟨by (with_reducible repeat (first | refine blk_drewN ?_ _ | refine blk_drew ?_ | refine blk_alloc ?_ _)); refine blk_put (cs := #[.bool false, .bool t163, .bool t164, .bool false]) ?_ 3 _ rfl; (with_reducible repeat (first | refine blk_drewN ?_ _ | refine blk_drew ?_ | refine blk_alloc ?_ _)); refine blk_put (cs := #[.bool false, .bool t163, .bool false, .bool false]) ?_ 2 _ rfl; (with_reducible repeat (first | refine blk_drewN ?_ _ | refine blk_drew ?_ | refine blk_alloc ?_ _)); refine blk_put (cs := #[.bool false, .bool false, .bool false, .bool false]) ?_ 1 _ rfl; (with_reducible repeat (first | refine blk_drewN ?_ _ | refine blk_drew ?_ | refine blk_alloc ?_ _)); refine blk_put (cs := #[.bool false, .bool false, .bool false, .bool false]) ?_ 0 _ rfl; (with_reducible repeat (first | refine blk_drewN ?_ _ | refine blk_drew ?_ | refine blk_alloc ?_ _)); exact BK166.out⟩, ⟨by repeat (first | (with_reducible first | exact HB.out | apply below_alloc | apply pw_below_drewN | apply below_drew1 | refine below_set ?_ GE160.out | refine below_set ?_ GE166.out) | exact HB.out)⟩⟩
              case rest =>
                clear HC11
                try clear c1
                try clear p2
                try clear c4
                try clear c5
                try clear c6
                try clear c7
                try clear c8
                try clear c9
                try clear c10
                try clear c11
                try clear c18
                try clear c47
                try clear c47b0
                try clear c47b1
                try clear c48
                try clear c56
                try clear c56b0
                try clear c56b1
                try clear c57
                try clear c58
                try clear c61
                try clear c64
                try clear c67
                try clear c70
                try clear c70b0
                try clear c70b1
                try clear c71
                try clear c72
                try clear c72b0
                try clear c73
                try clear c76
                try clear c77
                try clear c78
                try clear c81
                try clear c84
                try clear c84b0
                try clear c84b1
                try clear c85
                try clear c86
                try clear c89
                try clear c92
                try clear c95
                try clear c95b0
                try clear c95b1
                try clear c96
                try clear c97
                try clear c98
                try clear c101
                try clear c104
                try clear c104b0
                try clear c104b1
                try clear c105
                try clear c106
                try clear c109
                try clear c112
                try clear c115
                try clear c118
                try clear hcz100_0
                try clear hcz100_1
                try clear hcz100_2
                try clear hcz100_3
                try clear hcz100_4
                try clear hcz102_0
                try clear hcz102_1
                try clear hcz102_2
                try clear hcz102_3
                try clear hcz103_0
                try clear hcz103_1
                try clear hcz103_2
                try clear hcz103_3
                try clear hcz103_4
                try clear hcz107_0
                try clear hcz107_1
                try clear hcz107_2
                try clear hcz107_3
                try clear hcz108_0
                try clear hcz108_1
                try clear hcz108_2
                try clear hcz108_3
                try clear hcz108_4
                try clear hcz110_0
                try clear hcz110_1
                try clear hcz110_2
                try clear hcz110_3
                try clear hcz111_0
                try clear hcz111_1
                try clear hcz111_2
                try clear hcz111_3
                try clear hcz111_4
                try clear hcz113_0
                try clear hcz113_1
                try clear hcz113_2
                try clear hcz113_3
                try clear hcz114_0
                try clear hcz114_1
                try clear hcz114_2
                try clear hcz114_3
                try clear hcz114_4
                try clear hcz116_0
                try clear hcz116_1
                try clear hcz116_2
                try clear hcz116_3
                try clear hcz117_0
                try clear hcz117_1
                try clear hcz117_2
                try clear hcz117_3
                try clear hcz117_4
                try clear hcz119_0
                try clear hcz119_1
                try clear hcz119_2
                try clear hcz119_3
                try clear hcz120_0
                try clear hcz120_1
                try clear hcz120_2
                try clear hcz120_3
                try clear hcz120_4
                try clear hcz55_0
                try clear hcz55_1
                try clear hcz55_2
                try clear hcz55_3
                try clear hcz55_4
                try clear hcz59_0
                try clear hcz59_1
                try clear hcz59_2
                try clear hcz59_3
                try clear hcz60_0
                try clear hcz60_1
                try clear hcz60_2
                try clear hcz60_3
                try clear hcz60_4
                try clear hcz62_0
                try clear hcz62_1
                try clear hcz62_2
                try clear hcz62_3
                try clear hcz63_0
                try clear hcz63_1
                try clear hcz63_2
                try clear hcz63_3
                try clear hcz63_4
                try clear hcz65_0
                try clear hcz65_1
                try clear hcz65_2
                try clear hcz65_3
                try clear hcz66_0
                try clear hcz66_1
                try clear hcz66_2
                try clear hcz66_3
                try clear hcz66_4
                try clear hcz68_0
                try clear hcz68_1
                try clear hcz68_2
                try clear hcz68_3
                try clear hcz69_0
                try clear hcz69_1
                try clear hcz69_2
                try clear hcz69_3
                try clear hcz69_4
                try clear hcz74_0
                try clear hcz74_1
                try clear hcz74_2
                try clear hcz74_3
                try clear hcz75_0
                try clear hcz75_1
                try clear hcz75_2
                try clear hcz75_3
                try clear hcz75_4
                try clear hcz79_0
                try clear hcz79_1
                try clear hcz79_2
                try clear hcz79_3
                try clear hcz80_0
                try clear hcz80_1
                try clear hcz80_2
                try clear hcz80_3
                try clear hcz80_4
                try clear hcz82_0
                try clear hcz82_1
                try clear hcz82_2
                try clear hcz82_3
                try clear hcz83_0
                try clear hcz83_1
                try clear hcz83_2
                try clear hcz83_3
                try clear hcz83_4
                try clear hcz87_0
                try clear hcz87_1
                try clear hcz87_2
                try clear hcz87_3
                try clear hcz88_0
                try clear hcz88_1
                try clear hcz88_2
                try clear hcz88_3
                try clear hcz88_4
                try clear hcz90_0
                try clear hcz90_1
                try clear hcz90_2
                try clear hcz90_3
                try clear hcz91_0
                try clear hcz91_1
                try clear hcz91_2
                try clear hcz91_3
                try clear hcz91_4
                try clear hcz93_0
                try clear hcz93_1
                try clear hcz93_2
                try clear hcz93_3
                try clear hcz94_0
                try clear hcz94_1
                try clear hcz94_2
                try clear hcz94_3
                try clear hcz94_4
                try clear hcz99_0
                try clear hcz99_1
                try clear hcz99_2
                try clear hcz99_3
                try clear hfz100_0
                try clear hfz100_1
                try clear hfz100_2
                try clear hfz100_3
                try clear hfz100_4
                try clear hfz102_0
                try clear hfz102_1
                try clear hfz102_2
                try clear hfz102_3
                try clear hfz103_0
                try clear hfz103_1
                try clear hfz103_2
                try clear hfz103_3
                try clear hfz103_4
                try clear hfz107_0
                try clear hfz107_1
                try clear hfz107_2
                try clear hfz107_3
                try clear hfz108_0
                try clear hfz108_1
                try clear hfz108_2
                try clear hfz108_3
                try clear hfz108_4
                try clear hfz110_0
                try clear hfz110_1
                try clear hfz110_2
                try clear hfz110_3
                try clear hfz111_0
                try clear hfz111_1
                try clear hfz111_2
                try clear hfz111_3
                try clear hfz111_4
                try clear hfz113_0
                try clear hfz113_1
                try clear hfz113_2
                try clear hfz113_3
                try clear hfz114_0
                try clear hfz114_1
                try clear hfz114_2
                try clear hfz114_3
                try clear hfz114_4
                try clear hfz116_0
                try clear hfz116_1
                try clear hfz116_2
                try clear hfz116_3
                try clear hfz117_0
                try clear hfz117_1
                try clear hfz117_2
                try clear hfz117_3
                try clear hfz117_4
                try clear hfz119_0
                try clear hfz119_1
                try clear hfz119_2
                try clear hfz119_3
                try clear hfz120_0
                try clear hfz120_1
                try clear hfz120_2
                try clear hfz120_3
                try clear hfz120_4
                try clear hfz54_2
                try clear hfz54_3
                try clear hfz55_0
                try clear hfz55_1
                try clear hfz55_2
                try clear hfz55_3
                try clear hfz55_4
                try clear hfz59_0
                try clear hfz59_1
                try clear hfz59_2
                try clear hfz59_3
                try clear hfz60_0
                try clear hfz60_1
                try clear hfz60_2
                try clear hfz60_3
                try clear hfz60_4
                try clear hfz62_0
                try clear hfz62_1
                try clear hfz62_2
                try clear hfz62_3
                try clear hfz63_0
                try clear hfz63_1
                try clear hfz63_2
                try clear hfz63_3
                try clear hfz63_4
                try clear hfz65_0
                try clear hfz65_1
                try clear hfz65_2
                try clear hfz65_3
                try clear hfz66_0
                try clear hfz66_1
                try clear hfz66_2
                try clear hfz66_3
                try clear hfz66_4
                try clear hfz68_0
                try clear hfz68_1
                try clear hfz68_2
                try clear hfz68_3
                try clear hfz69_0
                try clear hfz69_1
                try clear hfz69_2
                try clear hfz69_3
                try clear hfz69_4
                try clear hfz74_0
                try clear hfz74_1
                try clear hfz74_2
                try clear hfz74_3
                try clear hfz75_0
                try clear hfz75_1
                try clear hfz75_2
                try clear hfz75_3
                try clear hfz75_4
                try clear hfz79_0
                try clear hfz79_1
                try clear hfz79_2
                try clear hfz79_3
                try clear hfz80_0
                try clear hfz80_1
                try clear hfz80_2
                try clear hfz80_3
                try clear hfz80_4
                try clear hfz82_0
                try clear hfz82_1
                try clear hfz82_2
                try clear hfz82_3
                try clear hfz83_0
                try clear hfz83_1
                try clear hfz83_2
                try clear hfz83_3
                try clear hfz83_4
                try clear hfz87_0
                try clear hfz87_1
                try clear hfz87_2
                try clear hfz87_3
                try clear hfz88_0
                try clear hfz88_1
                try clear hfz88_2
                try clear hfz88_3
                try clear hfz88_4
                try clear hfz90_0
                try clear hfz90_1
                try clear hfz90_2
                try clear hfz90_3
                try clear hfz91_0
                try clear hfz91_1
                try clear hfz91_2
                try clear hfz91_3
                try clear hfz91_4
                try clear hfz93_0
                try clear hfz93_1
                try clear hfz93_2
                try clear hfz93_3
                try clear hfz94_0
                try clear hfz94_1
                try clear hfz94_2
                try clear hfz94_3
                try clear hfz94_4
                try clear hfz99_0
                try clear hfz99_1
                try clear hfz99_2
                try clear hfz99_3
                obtain ⟨kq, x85_10, rfl, HA, HJ10, BK160, BK166, HB⟩ := hcut
                cases kq with
                | zero => exact absurd HA.out (by simp [posternref02_Plain.j1])
                | succ kj10 =>
                  have H := HA.out
                  clear HA
                  simp only [posternref02_Plain.j1] at H
                  by_cases c121 : x85_10 = true
                  · subst c121
                    have H1 : (some (0, 42)) = some (r1, r2) := by rw [if_pos rfl] at H; exact H
                    clear H
                    have H := H1
                    clear H1
                    simp only [Option.some.injEq, Prod.mk.injEq] at H
                    obtain ⟨rfl, rfl⟩ := H
                    go_wp2
                    go_ret2
                    exact ⟨by first | rfl | (simp [errW_none, errW_some] <;> rfl) | (simp [*, errW_none, errW_some] <;> rfl), by repeat (first | (with_reducible first | exact HB.out | apply below_alloc | apply pw_below_drewN | apply below_drew1 | refine below_set ?_ GE160.out | refine below_set ?_ GE166.out) | exact HB.out)⟩
                  · replace c121 := Bool.eq_false_iff.mpr c121
                    subst c121
                    have H1 : (if ((rd_T24 l0 a1).f0) = 133 then (posternref02_Plain.j2 kj10 l0 a1 (decide (((rd_T24 l0 a1).f2) > 1)) ((rd_T24 l0 a1).f0) ((rd_T24 l0 a1).f1) ((rd_T24 l0 a1).f2) ((rd_T24 l0 a1).f3) ((rd_T24 l0 a1).f4)) else (if ((rd_T24 l0 a1).f0) = 24 then (posternref02_Plain.j2 kj10 l0 a1 (decide (((rd_T24 l0 a1).f2) > 1)) ((rd_T24 l0 a1).f0) ((rd_T24 l0 a1).f1) ((rd_T24 l0 a1).f2) ((rd_T24 l0 a1).f3) ((rd_T24 l0 a1).f4)) else (posternref02_Plain.j2 kj10 l0 a1 false ((rd_T24 l0 a1).f0) ((rd_T24 l0 a1).f1) ((rd_T24 l0 a1).f2) ((rd_T24 l0 a1).f3) ((rd_T24 l0 a1).f4)))) = some (r1, r2) := by rw [if_neg (show ¬ (false = true) by decide)] at H; exact H
                    clear H
                    have H := H1
                    clear H1
                    have HC122 := Aside0.mk H
                    clear H
                    go_upto_region 9 with (fail)
                    go_cut [98] (fun v98 wc => ∃ (kq : Nat) (x98_121 : Bool), v98 = .bool x98_121 ∧ Aside0 (posternref02_Plain.j2 kq l0 a1 x98_121 ((rd_T24 l0 a1).f0) ((rd_T24 l0 a1).f1) ((rd_T24 l0 a1).f2) ((rd_T24 l0 a1).f3) ((rd_T24 l0 a1).f4) = some (r1, r2)) ∧ Aside0 (kq ≤ kj10) ∧ Aside0 (wc.heap[gb160]? = some (.cells #[.int .u8 ((rd_T24 l0 a1).f0), .int .u8 ((rd_T24 l0 a1).f1), .int .u8 ((rd_T24 l0 a1).f2), .int .i16 ((rd_T24 l0 a1).f3), .int .i32 ((rd_T24 l0 a1).f4)] 24 (0, 0))) ∧ Aside0 (wc.heap[gb166]? = some (.cells #[.bool t162, .bool t163, .bool t164, .bool t165] 76 (0, 0))) ∧ Aside0 (Below w.heap.size w wc))
                    case first =>
                      have H := HC122.out
                      clear HC122
                      by_cases c123 : ((rd_T24 l0 a1).f0) = 133
                      · rw [if_pos c123] at H
                        have c123b0 : (((rd_T24 l0 a1).f0) == 133) = true := beq_iff_eq.mpr c123
                        have c123b1 : (((rd_T24 l0 a1).f0) != 133) = false := bne_eq_false_iff_eq.mpr c123
                        clear c123
                        (first | rw [c123b0] | (simp only [i64_w, i32_w]; rw [c123b0]) | skip)
                        have H' := Aside0.mk H
                        clear H
                        have hnb124 := NB160_166.out
                        have hnc124 := NB166_160.out
                        have hcz125_0 : wc.cell? ⟨gb160, 0, none⟩ = some (.int .u8 ((rd_T24 l0 a1).f0)) := (blk_cell BK160.out 0).trans rfl
                        have hcz125_1 : wc.cell? ⟨gb160, 1, none⟩ = some (.int .u8 ((rd_T24 l0 a1).f1)) := (blk_cell BK160.out 1).trans rfl
                        have hcz125_2 : wc.cell? ⟨gb160, 2, none⟩ = some (.int .u8 ((rd_T24 l0 a1).f2)) := (blk_cell BK160.out 2).trans rfl
                        have hcz125_3 : wc.cell? ⟨gb160, 3, none⟩ = some (.int .i16 ((rd_T24 l0 a1).f3)) := (blk_cell BK160.out 3).trans rfl
                        have hcz125_4 : wc.cell? ⟨gb160, 4, none⟩ = some (.int .i32 ((rd_T24 l0 a1).f4)) := (blk_cell BK160.out 4).trans rfl
                        have hfz125_0 := blk_frozen BK160.out 0
                        have hfz125_1 := blk_frozen BK160.out 1
                        have hfz125_2 := blk_frozen BK160.out 2
                        have hfz125_3 := blk_frozen BK160.out 3
                        have hfz125_4 := blk_frozen BK160.out 4
                        go_wp2
                        go_meet
                        case rel => exact ⟨_, (decide (((rd_T24 l0 a1).f2) > 1)), (by first | rfl | (simp; done) | (simp [*]; done)), H', ⟨by have := HJ2.out; have := HJ10.out; first | omega | exact Nat.le_refl _⟩, ⟨by (with_reducible repeat (first | refine blk_drewN ?_ _ | refine blk_drew ?_ | refine blk_alloc ?_ _)); exact BK160.out⟩, ⟨by (with_reducible repeat (first | refine blk_drewN ?_ _ | refine blk_drew ?_ | refine blk_alloc ?_ _)); exact BK166.out⟩, ⟨by repeat (first | (with_reducible first | exact HB.out | apply below_alloc | apply pw_below_drewN | apply below_drew1 | refine below_set ?_ GE160.out | refine below_set ?_ GE166.out) | exact HB.out)⟩⟩
                      · rw [if_neg c123] at H
                        have c123b0 : (((rd_T24 l0 a1).f0) == 133) = false := beq_eq_false_iff_ne.mpr c123
                        have c123b1 : (((rd_T24 l0 a1).f0) != 133) = true := bne_iff_ne.mpr c123
                        (first | rw [c123b0] | (simp only [i64_w, i32_w]; rw [c123b0]) | skip)
                        by_cases c126 : ((rd_T24 l0 a1).f0) = 24
                        · rw [if_pos c126] at H
                          have c126b0 : (((rd_T24 l0 a1).f0) == 24) = true := beq_iff_eq.mpr c126
                          have c126b1 : (((rd_T24 l0 a1).f0) != 24) = false := bne_eq_false_iff_eq.mpr c126
                          clear c126
                          have H' := Aside0.mk H
                          clear H
                          have hnb127 := NB160_166.out
                          have hnc127 := NB166_160.out
                          have hcz128_0 : wc.cell? ⟨gb160, 0, none⟩ = some (.int .u8 ((rd_T24 l0 a1).f0)) := (blk_cell BK160.out 0).trans rfl
                          have hcz128_1 : wc.cell? ⟨gb160, 1, none⟩ = some (.int .u8 ((rd_T24 l0 a1).f1)) := (blk_cell BK160.out 1).trans rfl
                          have hcz128_2 : wc.cell? ⟨gb160, 2, none⟩ = some (.int .u8 ((rd_T24 l0 a1).f2)) := (blk_cell BK160.out 2).trans rfl
                          have hcz128_3 : wc.cell? ⟨gb160, 3, none⟩ = some (.int .i16 ((rd_T24 l0 a1).f3)) := (blk_cell BK160.out 3).trans rfl
                          have hcz128_4 : wc.cell? ⟨gb160, 4, none⟩ = some (.int .i32 ((rd_T24 l0 a1).f4)) := (blk_cell BK160.out 4).trans rfl
                          have hfz128_0 := blk_frozen BK160.out 0
                          have hfz128_1 := blk_frozen BK160.out 1
                          have hfz128_2 := blk_frozen BK160.out 2
                          have hfz128_3 := blk_frozen BK160.out 3
                          have hfz128_4 := blk_frozen BK160.out 4
                          go_wp2
                          go_meet
                          case rel => exact ⟨_, (decide (((rd_T24 l0 a1).f2) > 1)), (by first | rfl | (simp; done) | (simp [*]; done)), H', ⟨by have := HJ2.out; have := HJ10.out; first | omega | exact Nat.le_refl _⟩, ⟨by (with_reducible repeat (first | refine blk_drewN ?_ _ | refine blk_drew ?_ | refine blk_alloc ?_ _)); exact BK160.out⟩, ⟨by (with_reducible repeat (first | refine blk_drewN ?_ _ | refine blk_drew ?_ | refine blk_alloc ?_ _)); exact BK166.out⟩, ⟨by repeat (first | (with_reducible first | exact HB.out | apply below_alloc | apply pw_below_drewN | apply below_drew1 | refine below_set ?_ GE160.out | refine below_set ?_ GE166.out) | exact HB.out)⟩⟩
                        · rw [if_neg c126] at H
                          have c126b0 : (((rd_T24 l0 a1).f0) == 24) = false := beq_eq_false_iff_ne.mpr c126
                          have c126b1 : (((rd_T24 l0 a1).f0) != 24) = true := bne_iff_ne.mpr c126
                          have H' := Aside0.mk H
                          clear H
                          have hnb129 := NB160_166.out
                          have hnc129 := NB166_160.out
                          have hcz130_0 : wc.cell? ⟨gb160, 0, none⟩ = some (.int .u8 ((rd_T24 l0 a1).f0)) := (blk_cell BK160.out 0).trans rfl
                          have hcz130_1 : wc.cell? ⟨gb160, 1, none⟩ = some (.int .u8 ((rd_T24 l0 a1).f1)) := (blk_cell BK160.out 1).trans rfl
                          have hcz130_2 : wc.cell? ⟨gb160, 2, none⟩ = some (.int .u8 ((rd_T24 l0 a1).f2)) := (blk_cell BK160.out 2).trans rfl
                          have hcz130_3 : wc.cell? ⟨gb160, 3, none⟩ = some (.int .i16 ((rd_T24 l0 a1).f3)) := (blk_cell BK160.out 3).trans rfl
                          have hcz130_4 : wc.cell? ⟨gb160, 4, none⟩ = some (.int .i32 ((rd_T24 l0 a1).f4)) := (blk_cell BK160.out 4).trans rfl
                          have hfz130_0 := blk_frozen BK160.out 0
                          have hfz130_1 := blk_frozen BK160.out 1
                          have hfz130_2 := blk_frozen BK160.out 2
                          have hfz130_3 := blk_frozen BK160.out 3
                          have hfz130_4 := blk_frozen BK160.out 4
                          go_wp2
                          go_meet
                          case rel => exact ⟨_, (false), (by first | rfl | (simp; done) | (simp [*]; done)), H', ⟨by have := HJ2.out; have := HJ10.out; first | omega | exact Nat.le_refl _⟩, ⟨by (with_reducible repeat (first | refine blk_drewN ?_ _ | refine blk_drew ?_ | refine blk_alloc ?_ _)); exact BK160.out⟩, ⟨by (with_reducible repeat (first | refine blk_drewN ?_ _ | refine blk_drew ?_ | refine blk_alloc ?_ _)); exact BK166.out⟩, ⟨by repeat (first | (with_reducible first | exact HB.out | apply below_alloc | apply pw_below_drewN | apply below_drew1 | refine below_set ?_ GE160.out | refine below_set ?_ GE166.out) | exact HB.out)⟩⟩
                    case rest =>
                      clear HC122
                      try clear c1
                      try clear p2
                      try clear c4
                      try clear c5
                      try clear c6
                      try clear c7
                      try clear c8
                      try clear c9
                      try clear c10
                      try clear c11
                      try clear c12
                      try clear c18
                      try clear c47
                      try clear c47b0
                      try clear c47b1
                      try clear c48
                      try clear c56
                      try clear c56b0
                      try clear c56b1
                      try clear c57
                      try clear c58
                      try clear c61
                      try clear c64
                      try clear c67
                      try clear c70
                      try clear c70b0
                      try clear c70b1
                      try clear c71
                      try clear c72
                      try clear c72b0
                      try clear c73
                      try clear c76
                      try clear c77
                      try clear c78
                      try clear c81
                      try clear c84
                      try clear c84b0
                      try clear c84b1
                      try clear c85
                      try clear c86
                      try clear c89
                      try clear c92
                      try clear c95
                      try clear c95b0
                      try clear c95b1
                      try clear c96
                      try clear c97
                      try clear c98
                      try clear c101
                      try clear c104
                      try clear c104b0
                      try clear c104b1
                      try clear c105
                      try clear c106
                      try clear c109
                      try clear c112
                      try clear c115
                      try clear c118
                      try clear c121
                      try clear c123
                      try clear c123b0
                      try clear c123b1
                      try clear c124
                      try clear c126
                      try clear c126b0
                      try clear c126b1
                      try clear c127
                      try clear c129
                      try clear hcz100_0
                      try clear hcz100_1
                      try clear hcz100_2
                      try clear hcz100_3
                      try clear hcz100_4
                      try clear hcz102_0
                      try clear hcz102_1
                      try clear hcz102_2
                      try clear hcz102_3
                      try clear hcz103_0
                      try clear hcz103_1
                      try clear hcz103_2
                      try clear hcz103_3
                      try clear hcz103_4
                      try clear hcz107_0
                      try clear hcz107_1
                      try clear hcz107_2
                      try clear hcz107_3
                      try clear hcz108_0
                      try clear hcz108_1
                      try clear hcz108_2
                      try clear hcz108_3
                      try clear hcz108_4
                      try clear hcz110_0
                      try clear hcz110_1
                      try clear hcz110_2
                      try clear hcz110_3
                      try clear hcz111_0
                      try clear hcz111_1
                      try clear hcz111_2
                      try clear hcz111_3
                      try clear hcz111_4
                      try clear hcz113_0
                      try clear hcz113_1
                      try clear hcz113_2
                      try clear hcz113_3
                      try clear hcz114_0
                      try clear hcz114_1
                      try clear hcz114_2
                      try clear hcz114_3
                      try clear hcz114_4
                      try clear hcz116_0
                      try clear hcz116_1
                      try clear hcz116_2
                      try clear hcz116_3
                      try clear hcz117_0
                      try clear hcz117_1
                      try clear hcz117_2
                      try clear hcz117_3
                      try clear hcz117_4
                      try clear hcz119_0
                      try clear hcz119_1
                      try clear hcz119_2
                      try clear hcz119_3
                      try clear hcz120_0
                      try clear hcz120_1
                      try clear hcz120_2
                      try clear hcz120_3
                      try clear hcz120_4
                      try clear hcz125_0
                      try clear hcz125_1
                      try clear hcz125_2
                      try clear hcz125_3
                      try clear hcz125_4
                      try clear hcz128_0
                      try clear hcz128_1
                      try clear hcz128_2
                      try clear hcz128_3
                      try clear hcz128_4
                      try clear hcz130_0
                      try clear hcz130_1
                      try clear hcz130_2
                      try clear hcz130_3
                      try clear hcz130_4
                      try clear hcz55_0
                      try clear hcz55_1
                      try clear hcz55_2
                      try clear hcz55_3
                      try clear hcz55_4
                      try clear hcz59_0
                      try clear hcz59_1
                      try clear hcz59_2
                      try clear hcz59_3
                      try clear hcz60_0
                      try clear hcz60_1
                      try clear hcz60_2
                      try clear hcz60_3
                      try clear hcz60_4
                      try clear hcz62_0
                      try clear hcz62_1
                      try clear hcz62_2
                      try clear hcz62_3
                      try clear hcz63_0
                      try clear hcz63_1
                      try clear hcz63_2
                      try clear hcz63_3
                      try clear hcz63_4
                      try clear hcz65_0
                      try clear hcz65_1
                      try clear hcz65_2
                      try clear hcz65_3
                      try clear hcz66_0
                      try clear hcz66_1
                      try clear hcz66_2
                      try clear hcz66_3
                      try clear hcz66_4
                      try clear hcz68_0
                      try clear hcz68_1
                      try clear hcz68_2
                      try clear hcz68_3
                      try clear hcz69_0
                      try clear hcz69_1
                      try clear hcz69_2
                      try clear hcz69_3
                      try clear hcz69_4
                      try clear hcz74_0
                      try clear hcz74_1
                      try clear hcz74_2
                      try clear hcz74_3
                      try clear hcz75_0
                      try clear hcz75_1
                      try clear hcz75_2
                      try clear hcz75_3
                      try clear hcz75_4
                      try clear hcz79_0
                      try clear hcz79_1
                      try clear hcz79_2
                      try clear hcz79_3
                      try clear hcz80_0
                      try clear hcz80_1
                      try clear hcz80_2
                      try clear hcz80_3
                      try clear hcz80_4
                      try clear hcz82_0
                      try clear hcz82_1
                      try clear hcz82_2
                      try clear hcz82_3
                      try clear hcz83_0
                      try clear hcz83_1
                      try clear hcz83_2
                      try clear hcz83_3
                      try clear hcz83_4
                      try clear hcz87_0
                      try clear hcz87_1
                      try clear hcz87_2
                      try clear hcz87_3
                      try clear hcz88_0
                      try clear hcz88_1
                      try clear hcz88_2
                      try clear hcz88_3
                      try clear hcz88_4
                      try clear hcz90_0
                      try clear hcz90_1
                      try clear hcz90_2
                      try clear hcz90_3
                      try clear hcz91_0
                      try clear hcz91_1
                      try clear hcz91_2
                      try clear hcz91_3
                      try clear hcz91_4
                      try clear hcz93_0
                      try clear hcz93_1
                      try clear hcz93_2
                      try clear hcz93_3
                      try clear hcz94_0
                      try clear hcz94_1
                      try clear hcz94_2
                      try clear hcz94_3
                      try clear hcz94_4
                      try clear hcz99_0
                      try clear hcz99_1
                      try clear hcz99_2
                      try clear hcz99_3
                      try clear hfz100_0
                      try clear hfz100_1
                      try clear hfz100_2
                      try clear hfz100_3
                      try clear hfz100_4
                      try clear hfz102_0
                      try clear hfz102_1
                      try clear hfz102_2
                      try clear hfz102_3
                      try clear hfz103_0
                      try clear hfz103_1
                      try clear hfz103_2
                      try clear hfz103_3
                      try clear hfz103_4
                      try clear hfz107_0
                      try clear hfz107_1
                      try clear hfz107_2
                      try clear hfz107_3
                      try clear hfz108_0
                      try clear hfz108_1
                      try clear hfz108_2
                      try clear hfz108_3
                      try clear hfz108_4
                      try clear hfz110_0
                      try clear hfz110_1
                      try clear hfz110_2
                      try clear hfz110_3
                      try clear hfz111_0
                      try clear hfz111_1
                      try clear hfz111_2
                      try clear hfz111_3
                      try clear hfz111_4
                      try clear hfz113_0
                      try clear hfz113_1
                      try clear hfz113_2
                      try clear hfz113_3
                      try clear hfz114_0
                      try clear hfz114_1
                      try clear hfz114_2
                      try clear hfz114_3
                      try clear hfz114_4
                      try clear hfz116_0
                      try clear hfz116_1
                      try clear hfz116_2
                      try clear hfz116_3
                      try clear hfz117_0
                      try clear hfz117_1
                      try clear hfz117_2
                      try clear hfz117_3
                      try clear hfz117_4
                      try clear hfz119_0
                      try clear hfz119_1
                      try clear hfz119_2
                      try clear hfz119_3
                      try clear hfz120_0
                      try clear hfz120_1
                      try clear hfz120_2
                      try clear hfz120_3
                      try clear hfz120_4
                      try clear hfz125_0
                      try clear hfz125_1
                      try clear hfz125_2
                      try clear hfz125_3
                      try clear hfz125_4
                      try clear hfz128_0
                      try clear hfz128_1
                      try clear hfz128_2
                      try clear hfz128_3
                      try clear hfz128_4
                      try clear hfz130_0
                      try clear hfz130_1
                      try clear hfz130_2
                      try clear hfz130_3
                      try clear hfz130_4
                      try clear hfz54_2
                      try clear hfz54_3
                      try clear hfz55_0
                      try clear hfz55_1
                      try clear hfz55_2
                      try clear hfz55_3
                      try clear hfz55_4
                      try clear hfz59_0
                      try clear hfz59_1
                      try clear hfz59_2
                      try clear hfz59_3
                      try clear hfz60_0
                      try clear hfz60_1
                      try clear hfz60_2
                      try clear hfz60_3
                      try clear hfz60_4
                      try clear hfz62_0
                      try clear hfz62_1
                      try clear hfz62_2
                      try clear hfz62_3
                      try clear hfz63_0
                      try clear hfz63_1
                      try clear hfz63_2
                      try clear hfz63_3
                      try clear hfz63_4
                      try clear hfz65_0
                      try clear hfz65_1
                      try clear hfz65_2
                      try clear hfz65_3
                      try clear hfz66_0
                      try clear hfz66_1
                      try clear hfz66_2
                      try clear hfz66_3
                      try clear hfz66_4
                      try clear hfz68_0
                      try clear hfz68_1
                      try clear hfz68_2
                      try clear hfz68_3
                      try clear hfz69_0
                      try clear hfz69_1
                      try clear hfz69_2
                      try clear hfz69_3
                      try clear hfz69_4
                      try clear hfz74_0
                      try clear hfz74_1
                      try clear hfz74_2
                      try clear hfz74_3
                      try clear hfz75_0
                      try clear hfz75_1
                      try clear hfz75_2
                      try clear hfz75_3
                      try clear hfz75_4
                      try clear hfz79_0
                      try clear hfz79_1
                      try clear hfz79_2
                      try clear hfz79_3
                      try clear hfz80_0
                      try clear hfz80_1
                      try clear hfz80_2
                      try clear hfz80_3
                      try clear hfz80_4
                      try clear hfz82_0
                      try clear hfz82_1
                      try clear hfz82_2
                      try clear hfz82_3
                      try clear hfz83_0
                      try clear hfz83_1
                      try clear hfz83_2
                      try clear hfz83_3
                      try clear hfz83_4
                      try clear hfz87_0
                      try clear hfz87_1
                      try clear hfz87_2
                      try clear hfz87_3
                      try clear hfz88_0
                      try clear hfz88_1
                      try clear hfz88_2
                      try clear hfz88_3
                      try clear hfz88_4
                      try clear hfz90_0
                      try clear hfz90_1
                      try clear hfz90_2
                      try clear hfz90_3
                      try clear hfz91_0
                      try clear hfz91_1
                      try clear hfz91_2
                      try clear hfz91_3
                      try clear hfz91_4
                      try clear hfz93_0
                      try clear hfz93_1
                      try clear hfz93_2
                      try clear hfz93_3
                      try clear hfz94_0
                      try clear hfz94_1
                      try clear hfz94_2
                      try clear hfz94_3
                      try clear hfz94_4
                      try clear hfz99_0
                      try clear hfz99_1
                      try clear hfz99_2
                      try clear hfz99_3
                      try clear p2
                      obtain ⟨kq, x98_121, rfl, HA, HJ121, BK160, BK166, HB⟩ := hcut
                      cases kq with
                      | zero => exact absurd HA.out (by simp [posternref02_Plain.j2])
                      | succ kj121 =>
                        have H := HA.out
                        clear HA
                        simp only [posternref02_Plain.j2] at H
                        by_cases c131 : x98_121 = true
                        · subst c131
                          have H1 : (some (0, 42)) = some (r1, r2) := by rw [if_pos rfl] at H; exact H
                          clear H
                          have H := H1
                          clear H1
                          simp only [Option.some.injEq, Prod.mk.injEq] at H
                          obtain ⟨rfl, rfl⟩ := H
                          go_wp2
                          go_ret2
                          exact ⟨by first | rfl | (simp [errW_none, errW_some] <;> rfl) | (simp [*, errW_none, errW_some] <;> rfl), by repeat (first | (with_reducible first | exact HB.out | apply below_alloc | apply pw_below_drewN | apply below_drew1 | refine below_set ?_ GE160.out | refine below_set ?_ GE166.out) | exact HB.out)⟩
                        · replace c131 := Bool.eq_false_iff.mpr c131
                          subst c131
                          have H1 : (if ((rd_T24 l0 a1).f0) = 24 then (if a1 = (wrap64 ((l0.length : Int) - 1)) then (some (0, 42)) else (if 0 ≤ (wrap64 (a1 + 1)) then (if (wrap64 (a1 + 1)) < (l0.length : Int) then (if ((rd_T24 l0 (wrap64 (a1 + 1))).f0) = 0 then (if ((rd_T24 l0 (wrap64 (a1 + 1))).f1) = 0 then (if ((rd_T24 l0 (wrap64 (a1 + 1))).f2) = 0 then (if ((rd_T24 l0 (wrap64 (a1 + 1))).f3) = 0 then (some (2, 0)) else (some (0, 42))) else (some (0, 42))) else (some (0, 42))) else (some (0, 42))) else (none)) else (none))) else (some (1, 0))) = some (r1, r2) := by rw [if_neg (show ¬ (false = true) by decide)] at H; exact H
                          clear H
                          have H := H1
                          clear H1
                          by_cases c132 : ((rd_T24 l0 a1).f0) = 24
                          · rw [if_pos c132] at H
                            have c132b0 : (((rd_T24 l0 a1).f0) == 24) = true := beq_iff_eq.mpr c132
                            have c132b1 : (((rd_T24 l0 a1).f0) != 24) = false := bne_eq_false_iff_eq.mpr c132
                            clear c132
                            by_cases c133 : a1 = (wrap64 ((l0.length : Int) - 1))
                            · rw [if_pos c133] at H
                              have c133b0 : (a1 == (wrap64 ((l0.length : Int) - 1))) = true := beq_iff_eq.mpr c133
                              have c133b1 : (a1 != (wrap64 ((l0.length : Int) - 1))) = false := bne_eq_false_iff_eq.mpr c133
                              clear c133
                              simp only [Option.some.injEq, Prod.mk.injEq] at H
                              obtain ⟨rfl, rfl⟩ := H
                              have hnb134 := NB160_166.out
                              have hnc134 := NB166_160.out
                              have hcz135_0 : wc.cell? ⟨gb160, 0, none⟩ = some (.int .u8 ((rd_T24 l0 a1).f0)) := (blk_cell BK160.out 0).trans rfl
                              have hcz135_1 : wc.cell? ⟨gb160, 1, none⟩ = some (.int .u8 ((rd_T24 l0 a1).f1)) := (blk_cell BK160.out 1).trans rfl
                              have hcz135_2 : wc.cell? ⟨gb160, 2, none⟩ = some (.int .u8 ((rd_T24 l0 a1).f2)) := (blk_cell BK160.out 2).trans rfl
                              have hcz135_3 : wc.cell? ⟨gb160, 3, none⟩ = some (.int .i16 ((rd_T24 l0 a1).f3)) := (blk_cell BK160.out 3).trans rfl
                              have hcz135_4 : wc.cell? ⟨gb160, 4, none⟩ = some (.int .i32 ((rd_T24 l0 a1).f4)) := (blk_cell BK160.out 4).trans rfl
                              have hfz135_0 := blk_frozen BK160.out 0
                              have hfz135_1 := blk_frozen BK160.out 1
                              have hfz135_2 := blk_frozen BK160.out 2
                              have hfz135_3 := blk_frozen BK160.out 3
                              have hfz135_4 := blk_frozen BK160.out 4
                              go_wp2
                              go_ret2
                              exact ⟨by first | rfl | (simp [errW_none, errW_some] <;> rfl) | (simp [*, errW_none, errW_some] <;> rfl), by repeat (first | (with_reducible first | exact HB.out | apply below_alloc | apply pw_below_drewN | apply below_drew1 | refine below_set ?_ GE160.out | refine below_set ?_ GE166.out) | exact HB.out)⟩
                            · rw [if_neg c133] at H
                              have c133b0 : (a1 == (wrap64 ((l0.length : Int) - 1))) = false := beq_eq_false_iff_ne.mpr c133
                              have c133b1 : (a1 != (wrap64 ((l0.length : Int) - 1))) = true := bne_iff_ne.mpr c133
                              obtain ⟨ji136, hji136⟩ : ∃ j_ : Int, (wrap64 (a1 + 1)) = j_ := ⟨_, rfl⟩
                              replace H : (if 0 ≤ (ji136) then (if (ji136) < (l0.length : Int) then (if ((rd_T24 l0 (ji136)).f0) = 0 then (if ((rd_T24 l0 (ji136)).f1) = 0 then (if ((rd_T24 l0 (ji136)).f2) = 0 then (if ((rd_T24 l0 (ji136)).f3) = 0 then (some (2, 0)) else (some (0, 42))) else (some (0, 42))) else (some (0, 42))) else (some (0, 42))) else (none)) else (none)) = some (r1, r2) := by first | (rw [hji136] at H; exact H) | (simp only [hji136] at H ⊢; exact H)
                              have hji136w : (IntKind.i64.wrap (a1 + 1)) = ji136 := (i64_w _).trans hji136
                              by_cases c137 : 0 ≤ (ji136)
                              · rw [if_pos c137] at H
                                have c137b0 : decide (0 ≤ (ji136)) = true := decide_eq_true c137
                                clear c137
                                by_cases c138 : (ji136) < (l0.length : Int)
                                · rw [if_pos c138] at H
                                  have c138b0 : decide ((ji136) < (l0.length : Int)) = true := decide_eq_true c138
                                  clear c138
                                  by_cases c139 : ((rd_T24 l0 (ji136)).f0) = 0
                                  · rw [if_pos c139] at H
                                    have c139b0 : (((rd_T24 l0 (ji136)).f0) == 0) = true := beq_iff_eq.mpr c139
                                    have c139b1 : (((rd_T24 l0 (ji136)).f0) != 0) = false := bne_eq_false_iff_eq.mpr c139
                                    clear c139
                                    by_cases c140 : ((rd_T24 l0 (ji136)).f1) = 0
                                    · rw [if_pos c140] at H
                                      have c140b0 : (((rd_T24 l0 (ji136)).f1) == 0) = true := beq_iff_eq.mpr c140
                                      have c140b1 : (((rd_T24 l0 (ji136)).f1) != 0) = false := bne_eq_false_iff_eq.mpr c140
                                      clear c140
                                      by_cases c141 : ((rd_T24 l0 (ji136)).f2) = 0
                                      · rw [if_pos c141] at H
                                        have c141b0 : (((rd_T24 l0 (ji136)).f2) == 0) = true := beq_iff_eq.mpr c141
                                        have c141b1 : (((rd_T24 l0 (ji136)).f2) != 0) = false := bne_eq_false_iff_eq.mpr c141
                                        clear c141
                                        by_cases c142 : ((rd_T24 l0 (ji136)).f3) = 0
                                        · rw [if_pos c142] at H
                                          have c142b0 : (((rd_T24 l0 (ji136)).f3) == 0) = true := beq_iff_eq.mpr c142
                                          have c142b1 : (((rd_T24 l0 (ji136)).f3) != 0) = false := bne_eq_false_iff_eq.mpr c142
                                          clear c142
                                          simp only [Option.some.injEq, Prod.mk.injEq] at H
                                          obtain ⟨rfl, rfl⟩ := H
                                          have hnb143 := NB160_166.out
                                          have hnc143 := NB166_160.out
                                          have hcz144_0 : wc.cell? ⟨gb160, 0, none⟩ = some (.int .u8 ((rd_T24 l0 a1).f0)) := (blk_cell BK160.out 0).trans rfl
                                          have hcz144_1 : wc.cell? ⟨gb160, 1, none⟩ = some (.int .u8 ((rd_T24 l0 a1).f1)) := (blk_cell BK160.out 1).trans rfl
                                          have hcz144_2 : wc.cell? ⟨gb160, 2, none⟩ = some (.int .u8 ((rd_T24 l0 a1).f2)) := (blk_cell BK160.out 2).trans rfl
                                          have hcz144_3 : wc.cell? ⟨gb160, 3, none⟩ = some (.int .i16 ((rd_T24 l0 a1).f3)) := (blk_cell BK160.out 3).trans rfl
                                          have hcz144_4 : wc.cell? ⟨gb160, 4, none⟩ = some (.int .i32 ((rd_T24 l0 a1).f4)) := (blk_cell BK160.out 4).trans rfl
                                          have hfz144_0 := blk_frozen BK160.out 0
                                          have hfz144_1 := blk_frozen BK160.out 1
                                          have hfz144_2 := blk_frozen BK160.out 2
                                          have hfz144_3 := blk_frozen BK160.out 3
                                          have hfz144_4 := blk_frozen BK160.out 4
                                          have p167 : 0 ≤ ((ji136) : Int) := of_decide_eq_true (by first | (with_reducible assumption) | assumption)
                                          have q167 : (ji136) < (l0.length : Int) := of_decide_eq_true (by first | (with_reducible assumption) | assumption)
                                          obtain ⟨ad167, e167, hx167_0, hx167_1, hx167_2, hx167_3, hx167_4⟩ := at_T24 HR0.out (ji136) p167 q167
                                          obtain rfl : ad159 = ad167 := (by injection e167)
                                          replace hx167_0 := (HB.out.cell (World.block_lt_of_cell? w _ hx167_0)).trans hx167_0
                                          replace hx167_1 := (HB.out.cell (World.block_lt_of_cell? w _ hx167_1)).trans hx167_1
                                          replace hx167_2 := (HB.out.cell (World.block_lt_of_cell? w _ hx167_2)).trans hx167_2
                                          replace hx167_3 := (HB.out.cell (World.block_lt_of_cell? w _ hx167_3)).trans hx167_3
                                          replace hx167_4 := (HB.out.cell (World.block_lt_of_cell? w _ hx167_4)).trans hx167_4
                                          replace p167 := eq_true p167
                                          replace q167 := eq_true q167
                                          go_wp2_with (first | ((with_reducible refine gate_dst (N := 8) rfl ?_); (try (refine gate_guard (by rfl) ?_; dsimp only)); refine box_event ?hg (N := 8) ?hd (cs := #[.int .u8 0, .int .u8 0, .int .u8 0, .int .i16 0, .int .i32 0]) (t := 24) ?hr ?_; (case hd => rfl); (case hg => rfl); (case hr => first | (go_simp; done) | (go_simp; rfl)); intro gb168 hg w145 hbox hb; have n0_ := Aside0.mk (blk_below (g := gb160) (o := .cells #[.int .u8 ((rd_T24 l0 a1).f0), .int .u8 ((rd_T24 l0 a1).f1), .int .u8 ((rd_T24 l0 a1).f2), .int .i16 ((rd_T24 l0 a1).f3), .int .i32 ((rd_T24 l0 a1).f4)] 24 (0, 0)) (by (with_reducible repeat (first | refine blk_drewN ?_ _ | refine blk_drew ?_ | refine blk_alloc ?_ _)); exact BK160.out) hb); have n1_ := Aside0.mk (blk_below (g := gb166) (o := .cells #[.bool t162, .bool t163, .bool t164, .bool t165] 76 (0, 0)) (by (with_reducible repeat (first | refine blk_drewN ?_ _ | refine blk_drew ?_ | refine blk_alloc ?_ _)); exact BK166.out) hb); have n2_ := Aside0.mk (below_step (by repeat (first | (with_reducible first | exact HB.out | apply below_alloc | apply pw_below_drewN | apply below_drew1 | refine below_set ?_ GE160.out | refine below_set ?_ GE166.out) | exact HB.out)) hb); have n3_ := Aside0.mk (hbox); have n4_ := Aside0.mk ((by rw [hg]; exact (below_size (by repeat (first | (with_reducible first | exact HB.out | apply below_alloc | apply pw_below_drewN | apply below_drew1 | refine below_set ?_ GE160.out | refine below_set ?_ GE166.out) | exact HB.out))) : w.heap.size ≤ gb168)); have n5_ := Aside0.mk ((by rw [hg]; exact (below_size (by repeat (first | (with_reducible first | exact HB.out | apply below_alloc | apply pw_below_drewN | apply below_drew1 | refine below_set ?_ GE160.out | refine below_set ?_ GE166.out) | exact HB.out))) : w.heap.size ≤ gb168)); have n6_ := Aside0.mk ((by rw [hg]; exact Nat.ne_of_lt (blk_lt (g := gb160) (o := .cells #[.int .u8 ((rd_T24 l0 a1).f0), .int .u8 ((rd_T24 l0 a1).f1), .int .u8 ((rd_T24 l0 a1).f2), .int .i16 ((rd_T24 l0 a1).f3), .int .i32 ((rd_T24 l0 a1).f4)] 24 (0, 0)) (by (with_reducible repeat (first | refine blk_drewN ?_ _ | refine blk_drew ?_ | refine blk_alloc ?_ _)); exact BK160.out)) : gb160 ≠ gb168)); have n7_ := Aside0.mk ((by rw [hg]; exact Nat.ne_of_gt (blk_lt (g := gb160) (o := .cells #[.int .u8 ((rd_T24 l0 a1).f0), .int .u8 ((rd_T24 l0 a1).f1), .int .u8 ((rd_T24 l0 a1).f2), .int .i16 ((rd_T24 l0 a1).f3), .int .i32 ((rd_T24 l0 a1).f4)] 24 (0, 0)) (by (with_reducible repeat (first | refine blk_drewN ?_ _ | refine blk_drew ?_ | refine blk_alloc ?_ _)); exact BK160.out)) : gb168 ≠ gb160)); have n8_ := Aside0.mk ((by rw [hg]; exact Nat.ne_of_lt (blk_lt (g := gb166) (o := .cells #[.bool t162, .bool t163, .bool t164, .bool t165] 76 (0, 0)) (by (with_reducible repeat (first | refine blk_drewN ?_ _ | refine blk_drew ?_ | refine blk_alloc ?_ _)); exact BK166.out)) : gb166 ≠ gb168)); have n9_ := Aside0.mk ((by rw [hg]; exact Nat.ne_of_gt (blk_lt (g := gb166) (o := .cells #[.bool t162, .bool t163, .bool t164, .bool t165] 76 (0, 0)) (by (with_reducible repeat (first | refine blk_drewN ?_ _ | refine blk_drew ?_ | refine blk_alloc ?_ _)); exact BK166.out)) : gb168 ≠ gb166)); clear BK160; clear BK166; clear HB; have BK160 := n0_; have BK166 := n1_; have HB := n2_; have BK168 := n3_; have GW168 := n4_; have GE168 := n5_; have NB160_168 := n6_; have NB168_160 := n7_; have NB166_168 := n8_; have NB168_166 := n9_; clear n0_ n1_ n2_ n3_ n4_ n5_ n6_ n7_ n8_ n9_; clear hb hbox hg; have hnb146 := NB168_160.out; have hnc146 := NB160_168.out; have hnb147 := NB168_166.out; have hnc147 := NB166_168.out; have hcz148_0 : w145.cell? ⟨gb168, 0, none⟩ = some (.int .u8 0) := (blk_cell BK168.out 0).trans rfl; have hcz148_1 : w145.cell? ⟨gb168, 1, none⟩ = some (.int .u8 0) := (blk_cell BK168.out 1).trans rfl; have hcz148_2 : w145.cell? ⟨gb168, 2, none⟩ = some (.int .u8 0) := (blk_cell BK168.out 2).trans rfl; have hcz148_3 : w145.cell? ⟨gb168, 3, none⟩ = some (.int .i16 0) := (blk_cell BK168.out 3).trans rfl; have hcz148_4 : w145.cell? ⟨gb168, 4, none⟩ = some (.int .i32 0) := (blk_cell BK168.out 4).trans rfl; have hfz148_0 := blk_frozen BK168.out 0; have hfz148_1 := blk_frozen BK168.out 1; have hfz148_2 := blk_frozen BK168.out 2; have hfz148_3 := blk_frozen BK168.out 3; have hfz148_4 := blk_frozen BK168.out 4))
                                          go_ret2
                                          exact ⟨by first | rfl | (simp [errW_none, errW_some] <;> rfl) | (simp only [← hji136]; first | rfl | (simp [errW_none, errW_some] <;> rfl)) | (simp [*, errW_none, errW_some] <;> rfl), by repeat (first | (with_reducible first | exact HB.out | apply below_alloc | apply pw_below_drewN | apply below_drew1 | refine below_set ?_ GE160.out | refine below_set ?_ GE166.out | refine below_set ?_ GE168.out) | exact HB.out)⟩
                                        · rw [if_neg c142] at H
                                          have c142b0 : (((rd_T24 l0 (ji136)).f3) == 0) = false := beq_eq_false_iff_ne.mpr c142
                                          have c142b1 : (((rd_T24 l0 (ji136)).f3) != 0) = true := bne_iff_ne.mpr c142
                                          simp only [Option.some.injEq, Prod.mk.injEq] at H
                                          obtain ⟨rfl, rfl⟩ := H
                                          have hnb149 := NB160_166.out
                                          have hnc149 := NB166_160.out
                                          have hcz150_0 : wc.cell? ⟨gb160, 0, none⟩ = some (.int .u8 ((rd_T24 l0 a1).f0)) := (blk_cell BK160.out 0).trans rfl
                                          have hcz150_1 : wc.cell? ⟨gb160, 1, none⟩ = some (.int .u8 ((rd_T24 l0 a1).f1)) := (blk_cell BK160.out 1).trans rfl
                                          have hcz150_2 : wc.cell? ⟨gb160, 2, none⟩ = some (.int .u8 ((rd_T24 l0 a1).f2)) := (blk_cell BK160.out 2).trans rfl
                                          have hcz150_3 : wc.cell? ⟨gb160, 3, none⟩ = some (.int .i16 ((rd_T24 l0 a1).f3)) := (blk_cell BK160.out 3).trans rfl
                                          have hcz150_4 : wc.cell? ⟨gb160, 4, none⟩ = some (.int .i32 ((rd_T24 l0 a1).f4)) := (blk_cell BK160.out 4).trans rfl
                                          have hfz150_0 := blk_frozen BK160.out 0
                                          have hfz150_1 := blk_frozen BK160.out 1
                                          have hfz150_2 := blk_frozen BK160.out 2
                                          have hfz150_3 := blk_frozen BK160.out 3
                                          have hfz150_4 := blk_frozen BK160.out 4
                                          have p167 : 0 ≤ ((ji136) : Int) := of_decide_eq_true (by first | (with_reducible assumption) | assumption)
                                          have q167 : (ji136) < (l0.length : Int) := of_decide_eq_true (by first | (with_reducible assumption) | assumption)
                                          obtain ⟨ad167, e167, hx167_0, hx167_1, hx167_2, hx167_3, hx167_4⟩ := at_T24 HR0.out (ji136) p167 q167
                                          obtain rfl : ad159 = ad167 := (by injection e167)
                                          replace hx167_0 := (HB.out.cell (World.block_lt_of_cell? w _ hx167_0)).trans hx167_0
                                          replace hx167_1 := (HB.out.cell (World.block_lt_of_cell? w _ hx167_1)).trans hx167_1
                                          replace hx167_2 := (HB.out.cell (World.block_lt_of_cell? w _ hx167_2)).trans hx167_2
                                          replace hx167_3 := (HB.out.cell (World.block_lt_of_cell? w _ hx167_3)).trans hx167_3
                                          replace hx167_4 := (HB.out.cell (World.block_lt_of_cell? w _ hx167_4)).trans hx167_4
                                          replace p167 := eq_true p167
                                          replace q167 := eq_true q167
                                          go_wp2_with (first | ((with_reducible refine gate_dst (N := 8) rfl ?_); (try (refine gate_guard (by rfl) ?_; dsimp only)); refine box_event ?hg (N := 8) ?hd (cs := #[.int .u8 0, .int .u8 0, .int .u8 0, .int .i16 0, .int .i32 0]) (t := 24) ?hr ?_; (case hd => rfl); (case hg => rfl); (case hr => first | (go_simp; done) | (go_simp; rfl)); intro gb168 hg w151 hbox hb; have n0_ := Aside0.mk (blk_below (g := gb160) (o := .cells #[.int .u8 ((rd_T24 l0 a1).f0), .int .u8 ((rd_T24 l0 a1).f1), .int .u8 ((rd_T24 l0 a1).f2), .int .i16 ((rd_T24 l0 a1).f3), .int .i32 ((rd_T24 l0 a1).f4)] 24 (0, 0)) (by (with_reducible repeat (first | refine blk_drewN ?_ _ | refine blk_drew ?_ | refine blk_alloc ?_ _)); exact BK160.out) hb); have n1_ := Aside0.mk (blk_below (g := gb166) (o := .cells #[.bool t162, .bool t163, .bool t164, .bool t165] 76 (0, 0)) (by (with_reducible repeat (first | refine blk_drewN ?_ _ | refine blk_drew ?_ | refine blk_alloc ?_ _)); exact BK166.out) hb); have n2_ := Aside0.mk (below_step (by repeat (first | (with_reducible first | exact HB.out | apply below_alloc | apply pw_below_drewN | apply below_drew1 | refine below_set ?_ GE160.out | refine below_set ?_ GE166.out) | exact HB.out)) hb); have n3_ := Aside0.mk (hbox); have n4_ := Aside0.mk ((by rw [hg]; exact (below_size (by repeat (first | (with_reducible first | exact HB.out | apply below_alloc | apply pw_below_drewN | apply below_drew1 | refine below_set ?_ GE160.out | refine below_set ?_ GE166.out) | exact HB.out))) : w.heap.size ≤ gb168)); have n5_ := Aside0.mk ((by rw [hg]; exact (below_size (by repeat (first | (with_reducible first | exact HB.out | apply below_alloc | apply pw_below_drewN | apply below_drew1 | refine below_set ?_ GE160.out | refine below_set ?_ GE166.out) | exact HB.out))) : w.heap.size ≤ gb168)); have n6_ := Aside0.mk ((by rw [hg]; exact Nat.ne_of_lt (blk_lt (g := gb160) (o := .cells #[.int .u8 ((rd_T24 l0 a1).f0), .int .u8 ((rd_T24 l0 a1).f1), .int .u8 ((rd_T24 l0 a1).f2), .int .i16 ((rd_T24 l0 a1).f3), .int .i32 ((rd_T24 l0 a1).f4)] 24 (0, 0)) (by (with_reducible repeat (first | refine blk_drewN ?_ _ | refine blk_drew ?_ | refine blk_alloc ?_ _)); exact BK160.out)) : gb160 ≠ gb168)); have n7_ := Aside0.mk ((by rw [hg]; exact Nat.ne_of_gt (blk_lt (g := gb160) (o := .cells #[.int .u8 ((rd_T24 l0 a1).f0), .int .u8 ((rd_T24 l0 a1).f1), .int .u8 ((rd_T24 l0 a1).f2), .int .i16 ((rd_T24 l0 a1).f3), .int .i32 ((rd_T24 l0 a1).f4)] 24 (0, 0)) (by (with_reducible repeat (first | refine blk_drewN ?_ _ | refine blk_drew ?_ | refine blk_alloc ?_ _)); exact BK160.out)) : gb168 ≠ gb160)); have n8_ := Aside0.mk ((by rw [hg]; exact Nat.ne_of_lt (blk_lt (g := gb166) (o := .cells #[.bool t162, .bool t163, .bool t164, .bool t165] 76 (0, 0)) (by (with_reducible repeat (first | refine blk_drewN ?_ _ | refine blk_drew ?_ | refine blk_alloc ?_ _)); exact BK166.out)) : gb166 ≠ gb168)); have n9_ := Aside0.mk ((by rw [hg]; exact Nat.ne_of_gt (blk_lt (g := gb166) (o := .cells #[.bool t162, .bool t163, .bool t164, .bool t165] 76 (0, 0)) (by (with_reducible repeat (first | refine blk_drewN ?_ _ | refine blk_drew ?_ | refine blk_alloc ?_ _)); exact BK166.out)) : gb168 ≠ gb166)); clear BK160; clear BK166; clear HB; have BK160 := n0_; have BK166 := n1_; have HB := n2_; have BK168 := n3_; have GW168 := n4_; have GE168 := n5_; have NB160_168 := n6_; have NB168_160 := n7_; have NB166_168 := n8_; have NB168_166 := n9_; clear n0_ n1_ n2_ n3_ n4_ n5_ n6_ n7_ n8_ n9_; clear hb hbox hg; have hnb152 := NB168_160.out; have hnc152 := NB160_168.out; have hnb153 := NB168_166.out; have hnc153 := NB166_168.out; have hcz154_0 : w151.cell? ⟨gb168, 0, none⟩ = some (.int .u8 0) := (blk_cell BK168.out 0).trans rfl; have hcz154_1 : w151.cell? ⟨gb168, 1, none⟩ = some (.int .u8 0) := (blk_cell BK168.out 1).trans rfl; have hcz154_2 : w151.cell? ⟨gb168, 2, none⟩ = some (.int .u8 0) := (blk_cell BK168.out 2).trans rfl; have hcz154_3 : w151.cell? ⟨gb168, 3, none⟩ = some (.int .i16 0) := (blk_cell BK168.out 3).trans rfl; have hcz154_4 : w151.cell? ⟨gb168, 4, none⟩ = some (.int .i32 0) := (blk_cell BK168.out 4).trans rfl; have hfz154_0 := blk_frozen BK168.out 0; have hfz154_1 := blk_frozen BK168.out 1; have hfz154_2 := blk_frozen BK168.out 2; have hfz154_3 := blk_frozen BK168.out 3; have hfz154_4 := blk_frozen BK168.out 4))
                                          go_ret2
                                          exact ⟨by first | rfl | (simp [errW_none, errW_some] <;> rfl) | (simp only [← hji136]; first | rfl | (simp [errW_none, errW_some] <;> rfl)) | (simp [*, errW_none, errW_some] <;> rfl), by repeat (first | (with_reducible first | exact HB.out | apply below_alloc | apply pw_below_drewN | apply below_drew1 | refine below_set ?_ GE160.out | refine below_set ?_ GE166.out | refine below_set ?_ GE168.out) | exact HB.out)⟩
                                      · rw [if_neg c141] at H
                                        have c141b0 : (((rd_T24 l0 (ji136)).f2) == 0) = false := beq_eq_false_iff_ne.mpr c141
                                        have c141b1 : (((rd_T24 l0 (ji136)).f2) != 0) = true := bne_iff_ne.mpr c141
                                        simp only [Option.some.injEq, Prod.mk.injEq] at H
                                        obtain ⟨rfl, rfl⟩ := H
                                        have hnb155 := NB160_166.out
                                        have hnc155 := NB166_160.out
                                        have hcz156_0 : wc.cell? ⟨gb160, 0, none⟩ = some (.int .u8 ((rd_T24 l0 a1).f0)) := (blk_cell BK160.out 0).trans rfl
                                        have hcz156_1 : wc.cell? ⟨gb160, 1, none⟩ = some (.int .u8 ((rd_T24 l0 a1).f1)) := (blk_cell BK160.out 1).trans rfl
                                        have hcz156_2 : wc.cell? ⟨gb160, 2, none⟩ = some (.int .u8 ((rd_T24 l0 a1).f2)) := (blk_cell BK160.out 2).trans rfl
                                        have hcz156_3 : wc.cell? ⟨gb160, 3, none⟩ = some (.int .i16 ((rd_T24 l0 a1).f3)) := (blk_cell BK160.out 3).trans rfl
                                        have hcz156_4 : wc.cell? ⟨gb160, 4, none⟩ = some (.int .i32 ((rd_T24 l0 a1).f4)) := (blk_cell BK160.out 4).trans rfl
                                        have hfz156_0 := blk_frozen BK160.out 0
                                        have hfz156_1 := blk_frozen BK160.out 1
                                        have hfz156_2 := blk_frozen BK160.out 2
                                        have hfz156_3 := blk_frozen BK160.out 3
                                        have hfz156_4 := blk_frozen BK160.out 4
                                        have p167 : 0 ≤ ((ji136) : Int) := of_decide_eq_true (by first | (with_reducible assumption) | assumption)
                                        have q167 : (ji136) < (l0.length : Int) := of_decide_eq_true (by first | (with_reducible assumption) | assumption)
                                        obtain ⟨ad167, e167, hx167_0, hx167_1, hx167_2, hx167_3, hx167_4⟩ := at_T24 HR0.out (ji136) p167 q167
                                        obtain rfl : ad159 = ad167 := (by injection e167)
                                        replace hx167_0 := (HB.out.cell (World.block_lt_of_cell? w _ hx167_0)).trans hx167_0
                                        replace hx167_1 := (HB.out.cell (World.block_lt_of_cell? w _ hx167_1)).trans hx167_1
                                        replace hx167_2 := (HB.out.cell (World.block_lt_of_cell? w _ hx167_2)).trans hx167_2
                                        replace hx167_3 := (HB.out.cell (World.block_lt_of_cell? w _ hx167_3)).trans hx167_3
                                        replace hx167_4 := (HB.out.cell (World.block_lt_of_cell? w _ hx167_4)).trans hx167_4
                                        replace p167 := eq_true p167
                                        replace q167 := eq_true q167
                                        go_wp2_with (first | ((with_reducible refine gate_dst (N := 8) rfl ?_); (try (refine gate_guard (by rfl) ?_; dsimp only)); refine box_event ?hg (N := 8) ?hd (cs := #[.int .u8 0, .int .u8 0, .int .u8 0, .int .i16 0, .int .i32 0]) (t := 24) ?hr ?_; (case hd => rfl); (case hg => rfl); (case hr => first | (go_simp; done) | (go_simp; rfl)); intro gb168 hg w157 hbox hb; have n0_ := Aside0.mk (blk_below (g := gb160) (o := .cells #[.int .u8 ((rd_T24 l0 a1).f0), .int .u8 ((rd_T24 l0 a1).f1), .int .u8 ((rd_T24 l0 a1).f2), .int .i16 ((rd_T24 l0 a1).f3), .int .i32 ((rd_T24 l0 a1).f4)] 24 (0, 0)) (by (with_reducible repeat (first | refine blk_drewN ?_ _ | refine blk_drew ?_ | refine blk_alloc ?_ _)); exact BK160.out) hb); have n1_ := Aside0.mk (blk_below (g := gb166) (o := .cells #[.bool t162, .bool t163, .bool t164, .bool t165] 76 (0, 0)) (by (with_reducible repeat (first | refine blk_drewN ?_ _ | refine blk_drew ?_ | refine blk_alloc ?_ _)); exact BK166.out) hb); have n2_ := Aside0.mk (below_step (by repeat (first | (with_reducible first | exact HB.out | apply below_alloc | apply pw_below_drewN | apply below_drew1 | refine below_set ?_ GE160.out | refine below_set ?_ GE166.out) | exact HB.out)) hb); have n3_ := Aside0.mk (hbox); have n4_ := Aside0.mk ((by rw [hg]; exact (below_size (by repeat (first | (with_reducible first | exact HB.out | apply below_alloc | apply pw_below_drewN | apply below_drew1 | refine below_set ?_ GE160.out | refine below_set ?_ GE166.out) | exact HB.out))) : w.heap.size ≤ gb168)); have n5_ := Aside0.mk ((by rw [hg]; exact (below_size (by repeat (first | (with_reducible first | exact HB.out | apply below_alloc | apply pw_below_drewN | apply below_drew1 | refine below_set ?_ GE160.out | refine below_set ?_ GE166.out) | exact HB.out))) : w.heap.size ≤ gb168)); have n6_ := Aside0.mk ((by rw [hg]; exact Nat.ne_of_lt (blk_lt (g := gb160) (o := .cells #[.int .u8 ((rd_T24 l0 a1).f0), .int .u8 ((rd_T24 l0 a1).f1), .int .u8 ((rd_T24 l0 a1).f2), .int .i16 ((rd_T24 l0 a1).f3), .int .i32 ((rd_T24 l0 a1).f4)] 24 (0, 0)) (by (with_reducible repeat (first | refine blk_drewN ?_ _ | refine blk_drew ?_ | refine blk_alloc ?_ _)); exact BK160.out)) : gb160 ≠ gb168)); have n7_ := Aside0.mk ((by rw [hg]; exact Nat.ne_of_gt (blk_lt (g := gb160) (o := .cells #[.int .u8 ((rd_T24 l0 a1).f0), .int .u8 ((rd_T24 l0 a1).f1), .int .u8 ((rd_T24 l0 a1).f2), .int .i16 ((rd_T24 l0 a1).f3), .int .i32 ((rd_T24 l0 a1).f4)] 24 (0, 0)) (by (with_reducible repeat (first | refine blk_drewN ?_ _ | refine blk_drew ?_ | refine blk_alloc ?_ _)); exact BK160.out)) : gb168 ≠ gb160)); have n8_ := Aside0.mk ((by rw [hg]; exact Nat.ne_of_lt (blk_lt (g := gb166) (o := .cells #[.bool t162, .bool t163, .bool t164, .bool t165] 76 (0, 0)) (by (with_reducible repeat (first | refine blk_drewN ?_ _ | refine blk_drew ?_ | refine blk_alloc ?_ _)); exact BK166.out)) : gb166 ≠ gb168)); have n9_ := Aside0.mk ((by rw [hg]; exact Nat.ne_of_gt (blk_lt (g := gb166) (o := .cells #[.bool t162, .bool t163, .bool t164, .bool t165] 76 (0, 0)) (by (with_reducible repeat (first | refine blk_drewN ?_ _ | refine blk_drew ?_ | refine blk_alloc ?_ _)); exact BK166.out)) : gb168 ≠ gb166)); clear BK160; clear BK166; clear HB; have BK160 := n0_; have BK166 := n1_; have HB := n2_; have BK168 := n3_; have GW168 := n4_; have GE168 := n5_; have NB160_168 := n6_; have NB168_160 := n7_; have NB166_168 := n8_; have NB168_166 := n9_; clear n0_ n1_ n2_ n3_ n4_ n5_ n6_ n7_ n8_ n9_; clear hb hbox hg; have hnb158 := NB168_160.out; have hnc158 := NB160_168.out; have hnb159 := NB168_166.out; have hnc159 := NB166_168.out; have hcz160_0 : w157.cell? ⟨gb168, 0, none⟩ = some (.int .u8 0) := (blk_cell BK168.out 0).trans rfl; have hcz160_1 : w157.cell? ⟨gb168, 1, none⟩ = some (.int .u8 0) := (blk_cell BK168.out 1).trans rfl; have hcz160_2 : w157.cell? ⟨gb168, 2, none⟩ = some (.int .u8 0) := (blk_cell BK168.out 2).trans rfl; have hcz160_3 : w157.cell? ⟨gb168, 3, none⟩ = some (.int .i16 0) := (blk_cell BK168.out 3).trans rfl; have hcz160_4 : w157.cell? ⟨gb168, 4, none⟩ = some (.int .i32 0) := (blk_cell BK168.out 4).trans rfl; have hfz160_0 := blk_frozen BK168.out 0; have hfz160_1 := blk_frozen BK168.out 1; have hfz160_2 := blk_frozen BK168.out 2; have hfz160_3 := blk_frozen BK168.out 3; have hfz160_4 := blk_frozen BK168.out 4))
                                        go_ret2
                                        exact ⟨by first | rfl | (simp [errW_none, errW_some] <;> rfl) | (simp only [← hji136]; first | rfl | (simp [errW_none, errW_some] <;> rfl)) | (simp [*, errW_none, errW_some] <;> rfl), by repeat (first | (with_reducible first | exact HB.out | apply below_alloc | apply pw_below_drewN | apply below_drew1 | refine below_set ?_ GE160.out | refine below_set ?_ GE166.out | refine below_set ?_ GE168.out) | exact HB.out)⟩
                                    · rw [if_neg c140] at H
                                      have c140b0 : (((rd_T24 l0 (ji136)).f1) == 0) = false := beq_eq_false_iff_ne.mpr c140
                                      have c140b1 : (((rd_T24 l0 (ji136)).f1) != 0) = true := bne_iff_ne.mpr c140
                                      simp only [Option.some.injEq, Prod.mk.injEq] at H
                                      obtain ⟨rfl, rfl⟩ := H
                                      have hnb161 := NB160_166.out
                                      have hnc161 := NB166_160.out
                                      have hcz162_0 : wc.cell? ⟨gb160, 0, none⟩ = some (.int .u8 ((rd_T24 l0 a1).f0)) := (blk_cell BK160.out 0).trans rfl
                                      have hcz162_1 : wc.cell? ⟨gb160, 1, none⟩ = some (.int .u8 ((rd_T24 l0 a1).f1)) := (blk_cell BK160.out 1).trans rfl
                                      have hcz162_2 : wc.cell? ⟨gb160, 2, none⟩ = some (.int .u8 ((rd_T24 l0 a1).f2)) := (blk_cell BK160.out 2).trans rfl
                                      have hcz162_3 : wc.cell? ⟨gb160, 3, none⟩ = some (.int .i16 ((rd_T24 l0 a1).f3)) := (blk_cell BK160.out 3).trans rfl
                                      have hcz162_4 : wc.cell? ⟨gb160, 4, none⟩ = some (.int .i32 ((rd_T24 l0 a1).f4)) := (blk_cell BK160.out 4).trans rfl
                                      have hfz162_0 := blk_frozen BK160.out 0
                                      have hfz162_1 := blk_frozen BK160.out 1
                                      have hfz162_2 := blk_frozen BK160.out 2
                                      have hfz162_3 := blk_frozen BK160.out 3
                                      have hfz162_4 := blk_frozen BK160.out 4
                                      have p167 : 0 ≤ ((ji136) : Int) := of_decide_eq_true (by first | (with_reducible assumption) | assumption)
                                      have q167 : (ji136) < (l0.length : Int) := of_decide_eq_true (by first | (with_reducible assumption) | assumption)
                                      obtain ⟨ad167, e167, hx167_0, hx167_1, hx167_2, hx167_3, hx167_4⟩ := at_T24 HR0.out (ji136) p167 q167
                                      obtain rfl : ad159 = ad167 := (by injection e167)
                                      replace hx167_0 := (HB.out.cell (World.block_lt_of_cell? w _ hx167_0)).trans hx167_0
                                      replace hx167_1 := (HB.out.cell (World.block_lt_of_cell? w _ hx167_1)).trans hx167_1
                                      replace hx167_2 := (HB.out.cell (World.block_lt_of_cell? w _ hx167_2)).trans hx167_2
                                      replace hx167_3 := (HB.out.cell (World.block_lt_of_cell? w _ hx167_3)).trans hx167_3
                                      replace hx167_4 := (HB.out.cell (World.block_lt_of_cell? w _ hx167_4)).trans hx167_4
                                      replace p167 := eq_true p167
                                      replace q167 := eq_true q167
                                      go_wp2_with (first | ((with_reducible refine gate_dst (N := 8) rfl ?_); (try (refine gate_guard (by rfl) ?_; dsimp only)); refine box_event ?hg (N := 8) ?hd (cs := #[.int .u8 0, .int .u8 0, .int .u8 0, .int .i16 0, .int .i32 0]) (t := 24) ?hr ?_; (case hd => rfl); (case hg => rfl); (case hr => first | (go_simp; done) | (go_simp; rfl)); intro gb168 hg w163 hbox hb; have n0_ := Aside0.mk (blk_below (g := gb160) (o := .cells #[.int .u8 ((rd_T24 l0 a1).f0), .int .u8 ((rd_T24 l0 a1).f1), .int .u8 ((rd_T24 l0 a1).f2), .int .i16 ((rd_T24 l0 a1).f3), .int .i32 ((rd_T24 l0 a1).f4)] 24 (0, 0)) (by (with_reducible repeat (first | refine blk_drewN ?_ _ | refine blk_drew ?_ | refine blk_alloc ?_ _)); exact BK160.out) hb); have n1_ := Aside0.mk (blk_below (g := gb166) (o := .cells #[.bool t162, .bool t163, .bool t164, .bool t165] 76 (0, 0)) (by (with_reducible repeat (first | refine blk_drewN ?_ _ | refine blk_drew ?_ | refine blk_alloc ?_ _)); exact BK166.out) hb); have n2_ := Aside0.mk (below_step (by repeat (first | (with_reducible first | exact HB.out | apply below_alloc | apply pw_below_drewN | apply below_drew1 | refine below_set ?_ GE160.out | refine below_set ?_ GE166.out) | exact HB.out)) hb); have n3_ := Aside0.mk (hbox); have n4_ := Aside0.mk ((by rw [hg]; exact (below_size (by repeat (first | (with_reducible first | exact HB.out | apply below_alloc | apply pw_below_drewN | apply below_drew1 | refine below_set ?_ GE160.out | refine below_set ?_ GE166.out) | exact HB.out))) : w.heap.size ≤ gb168)); have n5_ := Aside0.mk ((by rw [hg]; exact (below_size (by repeat (first | (with_reducible first | exact HB.out | apply below_alloc | apply pw_below_drewN | apply below_drew1 | refine below_set ?_ GE160.out | refine below_set ?_ GE166.out) | exact HB.out))) : w.heap.size ≤ gb168)); have n6_ := Aside0.mk ((by rw [hg]; exact Nat.ne_of_lt (blk_lt (g := gb160) (o := .cells #[.int .u8 ((rd_T24 l0 a1).f0), .int .u8 ((rd_T24 l0 a1).f1), .int .u8 ((rd_T24 l0 a1).f2), .int .i16 ((rd_T24 l0 a1).f3), .int .i32 ((rd_T24 l0 a1).f4)] 24 (0, 0)) (by (with_reducible repeat (first | refine blk_drewN ?_ _ | refine blk_drew ?_ | refine blk_alloc ?_ _)); exact BK160.out)) : gb160 ≠ gb168)); have n7_ := Aside0.mk ((by rw [hg]; exact Nat.ne_of_gt (blk_lt (g := gb160) (o := .cells #[.int .u8 ((rd_T24 l0 a1).f0), .int .u8 ((rd_T24 l0 a1).f1), .int .u8 ((rd_T24 l0 a1).f2), .int .i16 ((rd_T24 l0 a1).f3), .int .i32 ((rd_T24 l0 a1).f4)] 24 (0, 0)) (by (with_reducible repeat (first | refine blk_drewN ?_ _ | refine blk_drew ?_ | refine blk_alloc ?_ _)); exact BK160.out)) : gb168 ≠ gb160)); have n8_ := Aside0.mk ((by rw [hg]; exact Nat.ne_of_lt (blk_lt (g := gb166) (o := .cells #[.bool t162, .bool t163, .bool t164, .bool t165] 76 (0, 0)) (by (with_reducible repeat (first | refine blk_drewN ?_ _ | refine blk_drew ?_ | refine blk_alloc ?_ _)); exact BK166.out)) : gb166 ≠ gb168)); have n9_ := Aside0.mk ((by rw [hg]; exact Nat.ne_of_gt (blk_lt (g := gb166) (o := .cells #[.bool t162, .bool t163, .bool t164, .bool t165] 76 (0, 0)) (by (with_reducible repeat (first | refine blk_drewN ?_ _ | refine blk_drew ?_ | refine blk_alloc ?_ _)); exact BK166.out)) : gb168 ≠ gb166)); clear BK160; clear BK166; clear HB; have BK160 := n0_; have BK166 := n1_; have HB := n2_; have BK168 := n3_; have GW168 := n4_; have GE168 := n5_; have NB160_168 := n6_; have NB168_160 := n7_; have NB166_168 := n8_; have NB168_166 := n9_; clear n0_ n1_ n2_ n3_ n4_ n5_ n6_ n7_ n8_ n9_; clear hb hbox hg; have hnb164 := NB168_160.out; have hnc164 := NB160_168.out; have hnb165 := NB168_166.out; have hnc165 := NB166_168.out; have hcz166_0 : w163.cell? ⟨gb168, 0, none⟩ = some (.int .u8 0) := (blk_cell BK168.out 0).trans rfl; have hcz166_1 : w163.cell? ⟨gb168, 1, none⟩ = some (.int .u8 0) := (blk_cell BK168.out 1).trans rfl; have hcz166_2 : w163.cell? ⟨gb168, 2, none⟩ = some (.int .u8 0) := (blk_cell BK168.out 2).trans rfl; have hcz166_3 : w163.cell? ⟨gb168, 3, none⟩ = some (.int .i16 0) := (blk_cell BK168.out 3).trans rfl; have hcz166_4 : w163.cell? ⟨gb168, 4, none⟩ = some (.int .i32 0) := (blk_cell BK168.out 4).trans rfl; have hfz166_0 := blk_frozen BK168.out 0; have hfz166_1 := blk_frozen BK168.out 1; have hfz166_2 := blk_frozen BK168.out 2; have hfz166_3 := blk_frozen BK168.out 3; have hfz166_4 := blk_frozen BK168.out 4))
                                      go_ret2
                                      exact ⟨by first | rfl | (simp [errW_none, errW_some] <;> rfl) | (simp only [← hji136]; first | rfl | (simp [errW_none, errW_some] <;> rfl)) | (simp [*, errW_none, errW_some] <;> rfl), by repeat (first | (with_reducible first | exact HB.out | apply below_alloc | apply pw_below_drewN | apply below_drew1 | refine below_set ?_ GE160.out | refine below_set ?_ GE166.out | refine below_set ?_ GE168.out) | exact HB.out)⟩
                                  · rw [if_neg c139] at H
                                    have c139b0 : (((rd_T24 l0 (ji136)).f0) == 0) = false := beq_eq_false_iff_ne.mpr c139
                                    have c139b1 : (((rd_T24 l0 (ji136)).f0) != 0) = true := bne_iff_ne.mpr c139
                                    simp only [Option.some.injEq, Prod.mk.injEq] at H
                                    obtain ⟨rfl, rfl⟩ := H
                                    have hnb167 := NB160_166.out
                                    have hnc167 := NB166_160.out
                                    have hcz168_0 : wc.cell? ⟨gb160, 0, none⟩ = some (.int .u8 ((rd_T24 l0 a1).f0)) := (blk_cell BK160.out 0).trans rfl
                                    have hcz168_1 : wc.cell? ⟨gb160, 1, none⟩ = some (.int .u8 ((rd_T24 l0 a1).f1)) := (blk_cell BK160.out 1).trans rfl
                                    have hcz168_2 : wc.cell? ⟨gb160, 2, none⟩ = some (.int .u8 ((rd_T24 l0 a1).f2)) := (blk_cell BK160.out 2).trans rfl
                                    have hcz168_3 : wc.cell? ⟨gb160, 3, none⟩ = some (.int .i16 ((rd_T24 l0 a1).f3)) := (blk_cell BK160.out 3).trans rfl
                                    have hcz168_4 : wc.cell? ⟨gb160, 4, none⟩ = some (.int .i32 ((rd_T24 l0 a1).f4)) := (blk_cell BK160.out 4).trans rfl
                                    have hfz168_0 := blk_frozen BK160.out 0
                                    have hfz168_1 := blk_frozen BK160.out 1
                                    have hfz168_2 := blk_frozen BK160.out 2
                                    have hfz168_3 := blk_frozen BK160.out 3
                                    have hfz168_4 := blk_frozen BK160.out 4
                                    have p167 : 0 ≤ ((ji136) : Int) := of_decide_eq_true (by first | (with_reducible assumption) | assumption)
                                    have q167 : (ji136) < (l0.length : Int) := of_decide_eq_true (by first | (with_reducible assumption) | assumption)
                                    obtain ⟨ad167, e167, hx167_0, hx167_1, hx167_2, hx167_3, hx167_4⟩ := at_T24 HR0.out (ji136) p167 q167
                                    obtain rfl : ad159 = ad167 := (by injection e167)
                                    replace hx167_0 := (HB.out.cell (World.block_lt_of_cell? w _ hx167_0)).trans hx167_0
                                    replace hx167_1 := (HB.out.cell (World.block_lt_of_cell? w _ hx167_1)).trans hx167_1
                                    replace hx167_2 := (HB.out.cell (World.block_lt_of_cell? w _ hx167_2)).trans hx167_2
                                    replace hx167_3 := (HB.out.cell (World.block_lt_of_cell? w _ hx167_3)).trans hx167_3
                                    replace hx167_4 := (HB.out.cell (World.block_lt_of_cell? w _ hx167_4)).trans hx167_4
                                    replace p167 := eq_true p167
                                    replace q167 := eq_true q167
                                    go_wp2_with (first | ((with_reducible refine gate_dst (N := 8) rfl ?_); (try (refine gate_guard (by rfl) ?_; dsimp only)); refine box_event ?hg (N := 8) ?hd (cs := #[.int .u8 0, .int .u8 0, .int .u8 0, .int .i16 0, .int .i32 0]) (t := 24) ?hr ?_; (case hd => rfl); (case hg => rfl); (case hr => first | (go_simp; done) | (go_simp; rfl)); intro gb168 hg w169 hbox hb; have n0_ := Aside0.mk (blk_below (g := gb160) (o := .cells #[.int .u8 ((rd_T24 l0 a1).f0), .int .u8 ((rd_T24 l0 a1).f1), .int .u8 ((rd_T24 l0 a1).f2), .int .i16 ((rd_T24 l0 a1).f3), .int .i32 ((rd_T24 l0 a1).f4)] 24 (0, 0)) (by (with_reducible repeat (first | refine blk_drewN ?_ _ | refine blk_drew ?_ | refine blk_alloc ?_ _)); exact BK160.out) hb); have n1_ := Aside0.mk (blk_below (g := gb166) (o := .cells #[.bool t162, .bool t163, .bool t164, .bool t165] 76 (0, 0)) (by (with_reducible repeat (first | refine blk_drewN ?_ _ | refine blk_drew ?_ | refine blk_alloc ?_ _)); exact BK166.out) hb); have n2_ := Aside0.mk (below_step (by repeat (first | (with_reducible first | exact HB.out | apply below_alloc | apply pw_below_drewN | apply below_drew1 | refine below_set ?_ GE160.out | refine below_set ?_ GE166.out) | exact HB.out)) hb); have n3_ := Aside0.mk (hbox); have n4_ := Aside0.mk ((by rw [hg]; exact (below_size (by repeat (first | (with_reducible first | exact HB.out | apply below_alloc | apply pw_below_drewN | apply below_drew1 | refine below_set ?_ GE160.out | refine below_set ?_ GE166.out) | exact HB.out))) : w.heap.size ≤ gb168)); have n5_ := Aside0.mk ((by rw [hg]; exact (below_size (by repeat (first | (with_reducible first | exact HB.out | apply below_alloc | apply pw_below_drewN | apply below_drew1 | refine below_set ?_ GE160.out | refine below_set ?_ GE166.out) | exact HB.out))) : w.heap.size ≤ gb168)); have n6_ := Aside0.mk ((by rw [hg]; exact Nat.ne_of_lt (blk_lt (g := gb160) (o := .cells #[.int .u8 ((rd_T24 l0 a1).f0), .int .u8 ((rd_T24 l0 a1).f1), .int .u8 ((rd_T24 l0 a1).f2), .int .i16 ((rd_T24 l0 a1).f3), .int .i32 ((rd_T24 l0 a1).f4)] 24 (0, 0)) (by (with_reducible repeat (first | refine blk_drewN ?_ _ | refine blk_drew ?_ | refine blk_alloc ?_ _)); exact BK160.out)) : gb160 ≠ gb168)); have n7_ := Aside0.mk ((by rw [hg]; exact Nat.ne_of_gt (blk_lt (g := gb160) (o := .cells #[.int .u8 ((rd_T24 l0 a1).f0), .int .u8 ((rd_T24 l0 a1).f1), .int .u8 ((rd_T24 l0 a1).f2), .int .i16 ((rd_T24 l0 a1).f3), .int .i32 ((rd_T24 l0 a1).f4)] 24 (0, 0)) (by (with_reducible repeat (first | refine blk_drewN ?_ _ | refine blk_drew ?_ | refine blk_alloc ?_ _)); exact BK160.out)) : gb168 ≠ gb160)); have n8_ := Aside0.mk ((by rw [hg]; exact Nat.ne_of_lt (blk_lt (g := gb166) (o := .cells #[.bool t162, .bool t163, .bool t164, .bool t165] 76 (0, 0)) (by (with_reducible repeat (first | refine blk_drewN ?_ _ | refine blk_drew ?_ | refine blk_alloc ?_ _)); exact BK166.out)) : gb166 ≠ gb168)); have n9_ := Aside0.mk ((by rw [hg]; exact Nat.ne_of_gt (blk_lt (g := gb166) (o := .cells #[.bool t162, .bool t163, .bool t164, .bool t165] 76 (0, 0)) (by (with_reducible repeat (first | refine blk_drewN ?_ _ | refine blk_drew ?_ | refine blk_alloc ?_ _)); exact BK166.out)) : gb168 ≠ gb166)); clear BK160; clear BK166; clear HB; have BK160 := n0_; have BK166 := n1_; have HB := n2_; have BK168 := n3_; have GW168 := n4_; have GE168 := n5_; have NB160_168 := n6_; have NB168_160 := n7_; have NB166_168 := n8_; have NB168_166 := n9_; clear n0_ n1_ n2_ n3_ n4_ n5_ n6_ n7_ n8_ n9_; clear hb hbox hg; have hnb170 := NB168_160.out; have hnc170 := NB160_168.out; have hnb171 := NB168_166.out; have hnc171 := NB166_168.out; have hcz172_0 : w169.cell? ⟨gb168, 0, none⟩ = some (.int .u8 0) := (blk_cell BK168.out 0).trans rfl; have hcz172_1 : w169.cell? ⟨gb168, 1, none⟩ = some (.int .u8 0) := (blk_cell BK168.out 1).trans rfl; have hcz172_2 : w169.cell? ⟨gb168, 2, none⟩ = some (.int .u8 0) := (blk_cell BK168.out 2).trans rfl; have hcz172_3 : w169.cell? ⟨gb168, 3, none⟩ = some (.int .i16 0) := (blk_cell BK168.out 3).trans rfl; have hcz172_4 : w169.cell? ⟨gb168, 4, none⟩ = some (.int .i32 0) := (blk_cell BK168.out 4).trans rfl; have hfz172_0 := blk_frozen BK168.out 0; have hfz172_1 := blk_frozen BK168.out 1; have hfz172_2 := blk_frozen BK168.out 2; have hfz172_3 := blk_frozen BK168.out 3; have hfz172_4 := blk_frozen BK168.out 4))
                                    go_ret2
                                    exact ⟨by first | rfl | (simp [errW_none, errW_some] <;> rfl) | (simp only [← hji136]; first | rfl | (simp [errW_none, errW_some] <;> rfl)) | (simp [*, errW_none, errW_some] <;> rfl), by repeat (first | (with_reducible first | exact HB.out | apply below_alloc | apply pw_below_drewN | apply below_drew1 | refine below_set ?_ GE160.out | refine below_set ?_ GE166.out | refine below_set ?_ GE168.out) | exact HB.out)⟩
                                · rw [if_neg c138] at H
                                  exact absurd H (by simp)
                              · rw [if_neg c137] at H
                                exact absurd H (by simp)
                          · rw [if_neg c132] at H
                            have c132b0 : (((rd_T24 l0 a1).f0) == 24) = false := beq_eq_false_iff_ne.mpr c132
                            have c132b1 : (((rd_T24 l0 a1).f0) != 24) = true := bne_iff_ne.mpr c132
                            simp only [Option.some.injEq, Prod.mk.injEq] at H
                            obtain ⟨rfl, rfl⟩ := H
                            have hnb173 := NB160_166.out
                            have hnc173 := NB166_160.out
                            have hcz174_0 : wc.cell? ⟨gb160, 0, none⟩ = some (.int .u8 ((rd_T24 l0 a1).f0)) := (blk_cell BK160.out 0).trans rfl
                            have hcz174_1 : wc.cell? ⟨gb160, 1, none⟩ = some (.int .u8 ((rd_T24 l0 a1).f1)) := (blk_cell BK160.out 1).trans rfl
                            have hcz174_2 : wc.cell? ⟨gb160, 2, none⟩ = some (.int .u8 ((rd_T24 l0 a1).f2)) := (blk_cell BK160.out 2).trans rfl
                            have hcz174_3 : wc.cell? ⟨gb160, 3, none⟩ = some (.int .i16 ((rd_T24 l0 a1).f3)) := (blk_cell BK160.out 3).trans rfl
                            have hcz174_4 : wc.cell? ⟨gb160, 4, none⟩ = some (.int .i32 ((rd_T24 l0 a1).f4)) := (blk_cell BK160.out 4).trans rfl
                            have hfz174_0 := blk_frozen BK160.out 0
                            have hfz174_1 := blk_frozen BK160.out 1
                            have hfz174_2 := blk_frozen BK160.out 2
                            have hfz174_3 := blk_frozen BK160.out 3
                            have hfz174_4 := blk_frozen BK160.out 4
                            go_wp2
                            go_ret2
                            exact ⟨by first | rfl | (simp [errW_none, errW_some] <;> rfl) | (simp [*, errW_none, errW_some] <;> rfl), by repeat (first | (with_reducible first | exact HB.out | apply below_alloc | apply pw_below_drewN | apply below_drew1 | refine below_set ?_ GE160.out | refine below_set ?_ GE166.out) | exact HB.out)⟩
            · replace c9 := Bool.eq_false_iff.mpr c9
              subst c9
              have H1 : (some (0, 41)) = some (r1, r2) := by rw [if_neg (show ¬ (false = true) by decide)] at H; exact H
              clear H
              have H := H1
              clear H1
              simp only [Option.some.injEq, Prod.mk.injEq] at H
              obtain ⟨rfl, rfl⟩ := H
              have p159 : 0 ≤ (a1 : Int) := of_decide_eq_true (by first | (with_reducible assumption) | assumption)
              have q159 : a1 < (l0.length : Int) := of_decide_eq_true (by first | (with_reducible assumption) | assumption)
              obtain ⟨ad159, e159, hx159_0, hx159_1, hx159_2, hx159_3, hx159_4⟩ := at_T24 HR0.out a1 p159 q159
              cases e159
              replace hx159_0 := (HB.out.cell (World.block_lt_of_cell? w _ hx159_0)).trans hx159_0
              replace hx159_1 := (HB.out.cell (World.block_lt_of_cell? w _ hx159_1)).trans hx159_1
              replace hx159_2 := (HB.out.cell (World.block_lt_of_cell? w _ hx159_2)).trans hx159_2
              replace hx159_3 := (HB.out.cell (World.block_lt_of_cell? w _ hx159_3)).trans hx159_3
              replace hx159_4 := (HB.out.cell (World.block_lt_of_cell? w _ hx159_4)).trans hx159_4
              replace p159 := eq_true p159
              replace q159 := eq_true q159
              go_wp2_with (first | ((with_reducible refine gate_dst (N := 6) rfl ?_); (try (refine gate_guard (by rfl) ?_; dsimp only)); refine box_event ?hg (N := 6) ?hd (cs := #[.int .u8 0, .int .u8 0, .int .u8 0, .int .i16 0, .int .i32 0]) (t := 24) ?hr ?_; (case hd => rfl); (case hg => rfl); (case hr => first | (go_simp; done) | (go_simp; rfl)); intro gb160 hg w175 hbox hb; have n0_ := Aside0.mk (below_step (by repeat (first | (with_reducible first | exact HB.out | apply below_alloc | apply pw_below_drewN | apply below_drew1) | exact HB.out)) hb); have n1_ := Aside0.mk (hbox); have n2_ := Aside0.mk ((by rw [hg]; exact (below_size (by repeat (first | (with_reducible first | exact HB.out | apply below_alloc | apply pw_below_drewN | apply below_drew1) | exact HB.out))) : w.heap.size ≤ gb160)); have n3_ := Aside0.mk ((by rw [hg]; exact (below_size (by repeat (first | (with_reducible first | exact HB.out | apply below_alloc | apply pw_below_drewN | apply below_drew1) | exact HB.out))) : w.heap.size ≤ gb160)); clear HB; have HB := n0_; have BK160 := n1_; have GW160 := n2_; have GE160 := n3_; clear n0_ n1_ n2_ n3_; clear hb hbox hg; have hcz176_0 : w175.cell? ⟨gb160, 0, none⟩ = some (.int .u8 0) := (blk_cell BK160.out 0).trans rfl; have hcz176_1 : w175.cell? ⟨gb160, 1, none⟩ = some (.int .u8 0) := (blk_cell BK160.out 1).trans rfl; have hcz176_2 : w175.cell? ⟨gb160, 2, none⟩ = some (.int .u8 0) := (blk_cell BK160.out 2).trans rfl; have hcz176_3 : w175.cell? ⟨gb160, 3, none⟩ = some (.int .i16 0) := (blk_cell BK160.out 3).trans rfl; have hcz176_4 : w175.cell? ⟨gb160, 4, none⟩ = some (.int .i32 0) := (blk_cell BK160.out 4).trans rfl; have hfz176_0 := blk_frozen BK160.out 0; have hfz176_1 := blk_frozen BK160.out 1; have hfz176_2 := blk_frozen BK160.out 2; have hfz176_3 := blk_frozen BK160.out 3; have hfz176_4 := blk_frozen BK160.out 4) | ((with_reducible refine gate_callee (f := 18) rfl ?_); refine goesL_ (some 24) rfl rfl Try.func18 (by kernel_rfl) rfl #[.int .i64 (wrap64 ((rd_T24 l0 a1).f0))] rfl (by (try simp only [List.map_toArray, List.map_cons, List.map_nil]); first | done | rfl | (simp only [List.length_drop, List.length_take]; rfl)) ?_; (with_reducible refine (posternref02_Known.calls kj2 (wrap64 ((rd_T24 l0 a1).f0)) false _ A8.out).mono ?_); rintro e w' ⟨rfl, ⟨nd, rfl⟩⟩; refine ⟨_, rfl, ?_⟩))
              go_ret2
              exact ⟨by first | rfl | (simp [errW_none, errW_some] <;> rfl) | (simp [*, errW_none, errW_some] <;> rfl), by repeat (first | (with_reducible first | exact HB.out | apply below_alloc | apply pw_below_drewN | apply below_drew1 | refine below_set ?_ GE160.out) | exact HB.out)⟩
          · rw [if_neg c7] at H
            exact absurd H (by simp)
        · rw [if_neg c6] at H
          exact absurd H (by simp)

end Go.Proofs.Ytiekhgllnpgjcaa.PInsnPlain
