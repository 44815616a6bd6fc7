-- Written by a program of this session (a variant of the print), for this claim. Lean checks it.
import Derived.Test.YtpkgegklpbholaaPInsnBytesx0
import Derived.Test.YtpkgegklpbholaaPInsnBytesx1
import Derived.Test.YtpkgegklpbholaaPInsnBytesx3
import Derived.Test.YtpkgegklpbholaaPInsnBytesx4
namespace Go.Proofs.Ytpkgegklpbholaa.PInsnBytes
open Go.RowKit Go.Proofs.YtpkgegklpbholaaW.PrintWords Go.Proofs.YtpkgegklpbholaaW.PrintLast Go.Proofs.YtpkgegklpbholaaW.PrintMore
attribute [local go_sem] max2_int min2_int max_two min_two max_three min_three max_four min_four   -- for this text's walks alone
attribute [local go_sem high] Go.Proofs.Ytpkgegklpbholaa.NotLaw.not_u64 Go.Proofs.Ytpkgegklpbholaa.NotLaw.not_u32 Go.Proofs.Ytpkgegklpbholaa.NotLaw.not_u16 Go.Proofs.Ytpkgegklpbholaa.NotLaw.not_u8
set_option linter.unusedVariables false
set_option linter.unusedSimpArgs false

attribute [local go_sem high] eqA24
/-! ### posternlaw02_InsnBytes: function 5 -/
mutual
def posternlaw02_InsnBytes.j0 : Nat → List Int → List (S24) → Bool → Option (Bool)
  | 0, _, _, _ => none
  | k + 1, x0, x3, x33 => if x33 = true then (some false) else (posternlaw02_InsnBytes.l0 k x0 x3 (x3.length : Int) 0)
def posternlaw02_InsnBytes.l0 : Nat → List Int → List (S24) → Int → Int → Option (Bool)
  | 0, _, _, _, _ => none
  | k + 1, x0, x3, x35, x36 => if x36 < x35 then (if 0 ≤ x36 then (if x36 < (x3.length : Int) then (if 0 ≤ (wrap64 (8 * x36)) then (if (wrap64 (8 * x36)) ≤ (wrap64 ((wrap64 (8 * x36)) + 8)) then (if (wrap64 ((wrap64 (8 * x36)) + 8)) ≤ (x0.length : Int) then ((posternref02_Slot.f k ((x0.take ((wrap64 ((wrap64 (8 * x36)) + 8)) : Int).toNat).drop ((wrap64 (8 * x36)) : Int).toNat)).bind fun bt173 => (if (!(((rd_T24 x3 x36).f0) == bt173.1) || (!(((rd_T24 x3 x36).f1) == bt173.2.1) || (!(((rd_T24 x3 x36).f2) == bt173.2.2.1) || (!(((rd_T24 x3 x36).f3) == bt173.2.2.2.1) || (!(((rd_T24 x3 x36).f4) == bt173.2.2.2.2)))))) = true then (some false) else (posternlaw02_InsnBytes.l0 k x0 x3 x35 (wrap64 (x36 + 1))))) else (none)) else (none)) else (none)) else (none)) else (none)) else ((insn_Encode.f k x3).bind fun t178 => (some ((strOfNums t178).toList == (strOfNums x0).toList)))
end
def posternlaw02_InsnBytes.f (k : Nat) (l0 : List Int) : Option (Bool) := (posternlaw02_first.f k).bind fun t166 => (if t166 = true then ((insn_Decode.f k l0).bind fun bt167 => (if ((l0.length : Int) % 8) = 0 then (if bt167.2 = 0 then (posternlaw02_InsnBytes.j0 k l0 bt167.1 ((bt167.1.length : Int) != (wrap64 ((l0.length : Int) / 8)))) else (posternlaw02_InsnBytes.j0 k l0 bt167.1 true)) else (if bt167.2 = 20 then (some ((bt167.1.length : Int) == 0)) else (some false)))) else (some false))
theorem posternlaw02_InsnBytes.mono_l : ∀ k, (∀ y0 y1 y2, LeO (posternlaw02_InsnBytes.j0 k y0 y1 y2) (posternlaw02_InsnBytes.j0 (k + 1) y0 y1 y2)) ∧ (∀ y0 y1 y2 y3, LeO (posternlaw02_InsnBytes.l0 k y0 y1 y2 y3) (posternlaw02_InsnBytes.l0 (k + 1) y0 y1 y2 y3))
  | 0 => ⟨fun _ _ _ r h => by simp [posternlaw02_InsnBytes.j0] at h, fun _ _ _ _ r h => by simp [posternlaw02_InsnBytes.l0] at h⟩
  | k + 1 => by
    obtain ⟨ih0, ih1⟩ := posternlaw02_InsnBytes.mono_l k
    refine ⟨?_, ?_⟩
    · intro y0 y1 y2
      unfold posternlaw02_InsnBytes.j0
      repeat' first
      | (with_reducible exact ih0 _ _ _)
      | (with_reducible exact ih1 _ _ _ _)
      | (with_reducible exact insn_Decode.mono _ _)
      | (with_reducible exact insn_Encode.mono _ _)
      | (with_reducible exact posternlaw02_first.mono _)
      | (with_reducible exact posternref02_Slot.mono _ _)
      | (with_reducible exact LeO.refl _)
      | (with_reducible exact LeO.none _)
      | (with_reducible refine LeO.ite ?_ ?_)
      | (with_reducible refine LeO.bind ?_ (fun _ => ?_))
      | exact ih0 _ _ _
      | exact ih1 _ _ _ _
      | exact insn_Decode.mono _ _
      | exact insn_Encode.mono _ _
      | exact posternlaw02_first.mono _
      | exact posternref02_Slot.mono _ _
      | exact LeO.none _
      | refine LeO.ite ?_ ?_
      | refine LeO.bind ?_ (fun _ => ?_)
    · intro y0 y1 y2 y3
      unfold posternlaw02_InsnBytes.l0
      repeat' first
      | (with_reducible exact ih0 _ _ _)
      | (with_reducible exact ih1 _ _ _ _)
      | (with_reducible exact insn_Decode.mono _ _)
      | (with_reducible exact insn_Encode.mono _ _)
      | (with_reducible exact posternlaw02_first.mono _)
      | (with_reducible exact posternref02_Slot.mono _ _)
      | (with_reducible exact LeO.refl _)
      | (with_reducible exact LeO.none _)
      | (with_reducible refine LeO.ite ?_ ?_)
      | (with_reducible refine LeO.bind ?_ (fun _ => ?_))
      | exact ih0 _ _ _
      | exact ih1 _ _ _ _
      | exact insn_Decode.mono _ _
      | exact insn_Encode.mono _ _
      | exact posternlaw02_first.mono _
      | exact posternref02_Slot.mono _ _
      | exact LeO.none _
      | refine LeO.ite ?_ ?_
      | refine LeO.bind ?_ (fun _ => ?_)
theorem posternlaw02_InsnBytes.mono : ∀ a0 k, LeO (posternlaw02_InsnBytes.f k a0) (posternlaw02_InsnBytes.f (k + 1) a0) := by
  intro a0 k
  obtain ⟨ih0, ih1⟩ := posternlaw02_InsnBytes.mono_l k
  unfold posternlaw02_InsnBytes.f
  repeat' first
      | (with_reducible exact ih0 _ _ _)
      | (with_reducible exact ih1 _ _ _ _)
      | (with_reducible exact insn_Decode.mono _ _)
      | (with_reducible exact insn_Encode.mono _ _)
      | (with_reducible exact posternlaw02_first.mono _)
      | (with_reducible exact posternref02_Slot.mono _ _)
      | (with_reducible exact LeO.refl _)
      | (with_reducible exact LeO.none _)
      | (with_reducible refine LeO.ite ?_ ?_)
      | (with_reducible refine LeO.bind ?_ (fun _ => ?_))
      | exact ih0 _ _ _
      | exact ih1 _ _ _ _
      | exact insn_Decode.mono _ _
      | exact insn_Encode.mono _ _
      | exact posternlaw02_first.mono _
      | exact posternref02_Slot.mono _ _
      | exact LeO.none _
      | refine LeO.ite ?_ ?_
      | refine LeO.bind ?_ (fun _ => ?_)
def posternlaw02_InsnBytes.T11 : Bool × List (List Nat × List Nat) := (true, [([], []), ([], []), ([0, 1], [0, 1]), ([2], [2]), ([], []), ([], []), ([5], [5]), ([], []), ([7], [7]), ([8], [8]), ([4, 6, 9], [4, 6, 9]), ([10], [10]), ([3, 11], [3, 11])])
def posternlaw02_InsnBytes.B11 : List Nat := [0, 0, 3, 7, 0, 0, 32, 0, 128, 384, 1008, 2032, 4095]
theorem posternlaw02_InsnBytes.tab11 : rtab .any (opsOf Try.f5 11) = posternlaw02_InsnBytes.T11 := by kernel_rfl
theorem posternlaw02_InsnBytes.bits11 : waitsOk posternlaw02_InsnBytes.T11.2 posternlaw02_InsnBytes.B11 = true := by kernel_rfl
set_option maxHeartbeats 8000000 in
set_option maxRecDepth 100000 in
theorem posternlaw02_InsnBytes.calls (k : Nat) (A0 : Option Addr) (c0 : Nat) (l0 : List Int) (r : Bool) (w : World) (hr_ : Aside0 (r = true)) (hr0 : Kd.C (Kd.int .u8) w A0 l0.length l0) (hc0 : l0.length ≤ c0) (h : posternlaw02_InsnBytes.f k l0 = some r) :
    Calls Try.prog 5 #[.slice A0 l0.length c0] w fun e w' => e = .returned (.bool r) ∧ Below w.heap.size w w' := by
  have hu24 := Try.underlying24
  have HR0 := Aside0.mk hr0
  have HC0 := Aside0.mk hc0
  clear hr0 hc0
  have HB := Aside0.mk (Below.refl w.heap.size w)
  have H : ((posternlaw02_first.f k).bind fun t166 => (if t166 = true then ((insn_Decode.f k l0).bind fun bt167 => (if ((l0.length : Int) % 8) = 0 then (if bt167.2 = 0 then (posternlaw02_InsnBytes.j0 k l0 bt167.1 ((bt167.1.length : Int) != (wrap64 ((l0.length : Int) / 8)))) else (posternlaw02_InsnBytes.j0 k l0 bt167.1 true)) else (if bt167.2 = 20 then (some ((bt167.1.length : Int) == 0)) else (some false)))) else (some false))) = some r := h
  clear h
  replace H := Option.bind_eq_some_iff.mp H
  obtain ⟨t166, A20, H⟩ := H
  replace H : (if t166 = true then ((insn_Decode.f k l0).bind fun bt167 => (if ((l0.length : Int) % 8) = 0 then (if bt167.2 = 0 then (posternlaw02_InsnBytes.j0 k l0 bt167.1 ((bt167.1.length : Int) != (wrap64 ((l0.length : Int) / 8)))) else (posternlaw02_InsnBytes.j0 k l0 bt167.1 true)) else (if bt167.2 = 20 then (some ((bt167.1.length : Int) == 0)) else (some false)))) else (some false)) = some r := H
  have A2 := Aside0.mk A20
  clear A20
  by_cases c3 : t166 = true
  · subst c3
    have H1 : ((insn_Decode.f k l0).bind fun bt167 => (if ((l0.length : Int) % 8) = 0 then (if bt167.2 = 0 then (posternlaw02_InsnBytes.j0 k l0 bt167.1 ((bt167.1.length : Int) != (wrap64 ((l0.length : Int) / 8)))) else (posternlaw02_InsnBytes.j0 k l0 bt167.1 true)) else (if bt167.2 = 20 then (some ((bt167.1.length : Int) == 0)) else (some false)))) = some r := by rw [if_pos rfl] at H; exact H
    clear H
    have H := H1
    clear H1
    replace H := Option.bind_eq_some_iff.mp H
    obtain ⟨⟨t167, t170⟩, A40, H⟩ := H
    replace H : (if ((l0.length : Int) % 8) = 0 then (if t170 = 0 then (posternlaw02_InsnBytes.j0 k l0 t167 ((t167.length : Int) != (wrap64 ((l0.length : Int) / 8)))) else (posternlaw02_InsnBytes.j0 k l0 t167 true)) else (if t170 = 20 then (some ((t167.length : Int) == 0)) else (some false))) = some r := H
    have A4 := Aside0.mk A40
    clear A40
    by_cases c5 : ((l0.length : Int) % 8) = 0
    · rw [if_pos c5] at H
      have c5b0 : (((l0.length : Int) % 8) == 0) = true := beq_iff_eq.mpr c5
      have c5b1 : (((l0.length : Int) % 8) != 0) = false := bne_eq_false_iff_eq.mpr c5
      clear c5
      have HC6 := Aside0.mk H
      clear H
      go_enter Try.func5, Try.ntmps5
      go_upto_region 6 with (first | ((with_reducible refine gate_callee (f := 13) rfl ?_); refine goesL_ (some 6) rfl rfl Try.func13 (by kernel_rfl) rfl #[] rfl (by (try simp only [List.map_toArray, List.map_cons, List.map_nil]); first | done | rfl | (simp only [List.length_drop, List.length_take]; rfl)) ?_; (with_reducible refine (posternlaw02_first.calls k  true _ A2.out).mono ?_); rintro e w7 ⟨rfl, hb⟩; refine ⟨_, rfl, ?_⟩; have n0_ := Aside0.mk (below_step (by repeat (first | (with_reducible first | exact HB.out | apply below_alloc | apply pw_below_drewN | apply below_drew1) | exact HB.out)) hb); clear HB; have HB := n0_; clear n0_; (try clear hb); (try clear hb2); (try clear hk); (try clear hi)) | ((with_reducible refine gate_callee (f := 25) rfl ?_); refine goesL_ (some 10) rfl rfl Try.func25 (by kernel_rfl) rfl #[.slice A0 l0.length c0] rfl (by (try simp only [List.map_toArray, List.map_cons, List.map_nil]); first | done | rfl | (simp only [List.length_drop, List.length_take]; rfl)) ?_; (with_reducible refine (insn_Decode.calls k (fun k_ => k_ < w.heap.size) _ _ l0 t167 t170 _ ?side1 A4.out).mono ?_); (case side1 => exact Kd.V_mk HC0.out (Kd.F_below (Kd.C_F (Kd.heap_int .u8) HR0.out) (by repeat (first | (with_reducible first | exact HB.out | apply below_alloc | apply pw_below_drewN | apply below_drew1) | exact HB.out)))); rintro e w8 ⟨v168, rfl, ho0, hb⟩; refine ⟨_, rfl, ?_⟩; have n0_ := Aside0.mk (Kd.R_lower (Kd.R_mono (ok' := fun k_ => True) ho0 (fun _ hk_ => trivial)) (below_size (by repeat (first | (with_reducible first | exact HB.out | apply below_alloc | apply pw_below_drewN | apply below_drew1) | exact HB.out)))); have n1_ := Aside0.mk (below_step (by repeat (first | (with_reducible first | exact HB.out | apply below_alloc | apply pw_below_drewN | apply below_drew1) | exact HB.out)) hb); clear HB; have HO169 := n0_; have HB := n1_; clear n0_ n1_; (try clear hb); (try clear hb2); (try clear hk); (try clear hi); (try clear ho0)))
      (try simp only [Act.put, List.setIfInBounds_toArray, List.set_cons_zero, List.set_cons_succ])
      go_cut [33] (fun v33 wc => ∃ (kq : Nat) (x33_5 : Bool), v33 = .bool x33_5 ∧ Aside0 (posternlaw02_InsnBytes.j0 kq l0 t167 x33_5 = some r) ∧ Aside0 (kq ≤ k) ∧ Aside0 (Kd.R k24 24 wc w.heap.size (fun _ => True) v168 t167) ∧ Aside0 (Below w.heap.size w wc))
      case first =>
        have H := HC6.out
        clear HC6
        by_cases c9 : t170 = 0
        · rw [if_pos c9] at H
          have c9b0 : (t170 == 0) = true := beq_iff_eq.mpr c9
          have c9b1 : (t170 != 0) = false := bne_eq_false_iff_eq.mpr c9
          clear c9
          (first | rw [c9b0] | (simp only [i64_w, i32_w]; rw [c9b0]) | skip)
          have H' := Aside0.mk H
          clear H
          obtain ⟨Ao10, co10, eo10⟩ := Kd.R_slice HO169.out
          subst eo10
          go_wp2
          go_meet
          case rel => exact ⟨_, (((t167.length : Int) != (wrap64 ((l0.length : Int) / 8)))), (by first | rfl | (simp; done) | (simp [*]; done)), H', ⟨by first | omega | exact Nat.le_refl _⟩, ⟨by (with_reducible repeat (first | apply Kd.R_alloc | apply Kd.R_drewN | apply Kd.R_drew)); exact HO169.out⟩, ⟨by repeat (first | (with_reducible first | exact HB.out | apply below_alloc | apply pw_below_drewN | apply below_drew1) | exact HB.out)⟩⟩
        · rw [if_neg c9] at H
          have c9b0 : (t170 == 0) = false := beq_eq_false_iff_ne.mpr c9
          have c9b1 : (t170 != 0) = true := bne_iff_ne.mpr c9
          (first | rw [c9b0] | (simp only [i64_w, i32_w]; rw [c9b0]) | skip)
          have H' := Aside0.mk H
          clear H
          go_wp2
          go_meet
          case rel => exact ⟨_, (true), (by first | rfl | (simp; done) | (simp [*]; done)), H', ⟨by first | omega | exact Nat.le_refl _⟩, ⟨by (with_reducible repeat (first | apply Kd.R_alloc | apply Kd.R_drewN | apply Kd.R_drew)); exact HO169.out⟩, ⟨by repeat (first | (with_reducible first | exact HB.out | apply below_alloc | apply pw_below_drewN | apply below_drew1) | exact HB.out)⟩⟩
      case rest =>
        clear HC6
        try clear c1
        try clear c2
        try clear p2
        try clear c3
        try clear c5
        try clear c5b0
        try clear c5b1
        try clear p6
        try clear c9
        try clear c9b0
        try clear c9b1
        obtain ⟨kq, x33_5, rfl, HA, HJ5, HO_3, HB⟩ := hcut
        cases kq with
        | zero => exact absurd HA.out (by simp [posternlaw02_InsnBytes.j0])
        | succ kj5 =>
          have H := HA.out
          clear HA
          simp only [posternlaw02_InsnBytes.j0] at H
          by_cases c11 : x33_5 = true
          · subst c11
            have H1 : (some false) = some r := by rw [if_pos rfl] at H; exact H
            clear H
            have H := H1
            clear H1
            exact absurd (H.trans (congrArg some hr_.out)) (by simp)
          · replace c11 := Bool.eq_false_iff.mpr c11
            subst c11
            have H1 : (posternlaw02_InsnBytes.l0 kj5 l0 t167 (t167.length : Int) 0) = some r := by rw [if_neg (show ¬ (false = true) by decide)] at H; exact H
            clear H
            have H := H1
            clear H1
            have H' := Aside0.mk H
            clear H
            obtain ⟨Ao12, co12, eo12⟩ := Kd.R_slice HO_3.out
            subst eo12
            go_wp2
            go_loopg [36] kj5 (fun kq v36 w' => ∃ (x36_2 : Int), v36 = .int .i64 x36_2 ∧ Aside0 (posternlaw02_InsnBytes.l0 kq l0 t167 (t167.length : Int) x36_2 = some r) ∧ Aside0 (kq ≤ kj5) ∧ Aside0 (Kd.R k24 24 w' w.heap.size (fun _ => True) (.slice Ao12 t167.length co12) t167) ∧ Aside0 (Below w.heap.size w w'))
            case atStart => exact ⟨(0), (by first | rfl | (simp; done) | (simp [*]; done)), H', ⟨Nat.le_refl _⟩, ⟨by (with_reducible repeat (first | apply Kd.R_alloc | apply Kd.R_drewN | apply Kd.R_drew)); exact HO_3.out⟩, ⟨by repeat (first | (with_reducible first | exact HB.out | apply below_alloc | apply pw_below_drewN | apply below_drew1) | exact HB.out)⟩⟩
            case round =>
              clear H'
              try clear c1
              try clear c2
              try clear p2
              try clear c3
              try clear c5
              try clear c5b0
              try clear c5b1
              try clear p6
              try clear c9
              try clear c9b0
              try clear c9b1
              try clear c11
              try clear p2
              try clear p6
              obtain ⟨x36_2, rfl, HA, HK2, HO_3, HB⟩ := hrel
              cases gk with
              | zero => exact absurd HA.out (by simp [posternlaw02_InsnBytes.l0])
              | succ k2 =>
                have H := HA.out
                clear HA
                simp only [posternlaw02_InsnBytes.l0] at H
                by_cases c13 : x36_2 < (t167.length : Int)
                · rw [if_pos c13] at H
                  have c13b0 : decide (x36_2 < (t167.length : Int)) = true := decide_eq_true c13
                  clear c13
                  by_cases c14 : 0 ≤ x36_2
                  · rw [if_pos c14] at H
                    have c14b0 : decide (0 ≤ x36_2) = true := decide_eq_true c14
                    clear c14
                    by_cases c15 : x36_2 < (t167.length : Int)
                    · rw [if_pos c15] at H
                      have c15b0 : decide (x36_2 < (t167.length : Int)) = true := decide_eq_true c15
                      clear c15
                      obtain ⟨ji16, hji16⟩ : ∃ j_ : Int, (wrap64 (8 * x36_2)) = j_ := ⟨_, rfl⟩
                      replace H : (if 0 ≤ (ji16) then (if (ji16) ≤ (wrap64 ((ji16) + 8)) then (if (wrap64 ((ji16) + 8)) ≤ (l0.length : Int) then ((posternref02_Slot.f k2 ((l0.take ((wrap64 ((ji16) + 8)) : Int).toNat).drop ((ji16) : Int).toNat)).bind fun bt173 => (if (!(((rd_T24 t167 x36_2).f0) == bt173.1) || (!(((rd_T24 t167 x36_2).f1) == bt173.2.1) || (!(((rd_T24 t167 x36_2).f2) == bt173.2.2.1) || (!(((rd_T24 t167 x36_2).f3) == bt173.2.2.2.1) || (!(((rd_T24 t167 x36_2).f4) == bt173.2.2.2.2)))))) = true then (some false) else (posternlaw02_InsnBytes.l0 k2 l0 t167 (t167.length : Int) (wrap64 (x36_2 + 1))))) else (none)) else (none)) else (none)) = some r := by first | (rw [hji16] at H; exact H) | (simp only [hji16] at H ⊢; exact H)
                      have hji16w : (IntKind.i64.wrap (8 * x36_2)) = ji16 := (i64_w _).trans hji16
                      by_cases c17 : 0 ≤ (ji16)
                      · rw [if_pos c17] at H
                        have c17b0 := eq_true c17
                        have c17b1 : decide (0 ≤ (ji16)) = true := decide_eq_true c17
                        clear c17
                        by_cases c18 : (ji16) ≤ (wrap64 ((ji16) + 8))
                        · rw [if_pos c18] at H
                          have c18b0 := eq_true c18
                          have c18b1 : decide ((ji16) ≤ (wrap64 ((ji16) + 8))) = true := decide_eq_true c18
                          by_cases c19 : (wrap64 ((ji16) + 8)) ≤ (l0.length : Int)
                          · rw [if_pos c19] at H
                            have c19b0 := eq_true c19
                            have c19b1 : decide ((wrap64 ((ji16) + 8)) ≤ (l0.length : Int)) = true := decide_eq_true c19
                            replace H := Option.bind_eq_some_iff.mp H
                            obtain ⟨⟨t173, t174, t175, t176, t177⟩, A200, H⟩ := H
                            replace H : (if (!(((rd_T24 t167 x36_2).f0) == t173) || (!(((rd_T24 t167 x36_2).f1) == t174) || (!(((rd_T24 t167 x36_2).f2) == t175) || (!(((rd_T24 t167 x36_2).f3) == t176) || (!(((rd_T24 t167 x36_2).f4) == t177)))))) = true then (some false) else (posternlaw02_InsnBytes.l0 k2 l0 t167 (t167.length : Int) (wrap64 (x36_2 + 1)))) = some r := H
                            have A20 := Aside0.mk A200
                            clear A200
                            by_cases c21 : (!(((rd_T24 t167 x36_2).f0) == t173) || (!(((rd_T24 t167 x36_2).f1) == t174) || (!(((rd_T24 t167 x36_2).f2) == t175) || (!(((rd_T24 t167 x36_2).f3) == t176) || (!(((rd_T24 t167 x36_2).f4) == t177)))))) = true
                            · rw [if_pos c21] at H
                              have c21b0 : (!(((rd_T24 t167 x36_2).f0) == t173) || (!(((rd_T24 t167 x36_2).f1) == t174) || (!(((rd_T24 t167 x36_2).f2) == t175) || (!(((rd_T24 t167 x36_2).f3) == t176) || (!(((rd_T24 t167 x36_2).f4) == t177)))))) = true := c21
                              clear c21
                              exact absurd (H.trans (congrArg some hr_.out)) (by simp)
                            · rw [if_neg c21] at H
                              have c21b0 : (!(((rd_T24 t167 x36_2).f0) == t173) || (!(((rd_T24 t167 x36_2).f1) == t174) || (!(((rd_T24 t167 x36_2).f2) == t175) || (!(((rd_T24 t167 x36_2).f3) == t176) || (!(((rd_T24 t167 x36_2).f4) == t177)))))) = false := by simpa using c21
                              clear c21
                              have H' := Aside0.mk H
                              clear H
                              try go_wp2
                              have n0_ := Aside0.mk (Kd.R_drew HO_3.out)
                              have n1_ := Aside0.mk (below_drew1 HB.out)
                              clear HO_3
                              clear HB
                              have HO_3 := n0_
                              have HB := n1_
                              clear n0_ n1_
                              have p171 : 0 ≤ (x36_2 : Int) := of_decide_eq_true (by first | (with_reducible assumption) | assumption)
                              have q171 : x36_2 < (t167.length : Int) := of_decide_eq_true (by first | (with_reducible assumption) | assumption)
                              obtain ⟨ad171, e171, hx171_0, hx171_1, hx171_2, hx171_3, hx171_4⟩ := at_T24 (Kd.R_reads' HO_3.out).2.2 x36_2 p171 q171
                              cases e171
                              replace p171 := eq_true p171
                              replace q171 := eq_true q171
                              obtain ⟨i023, hi023, _, hsz23, _⟩ := info_parts info5
                              obtain ⟨A23, hcut23, hA23, hC23⟩ := print_mid_of (P := Try.prog) (Value.int .u8) 0 35 5 .i64 .i64 Try.underlying35 hi023 hsz23 A0 c0 l0 (ji16) (wrap64 ((ji16) + 8)) (of_decide_eq_true (by first | (with_reducible assumption) | assumption)) (by first | omega | exact of_decide_eq_true (by first | (with_reducible assumption) | assumption)) (of_decide_eq_true (by first | (with_reducible assumption) | assumption)) HC0.out
                              have HR172 := Aside0.mk (Kd.C_of_reads (h1 := fun _ => rfl) (hA23 _ (Kd.reads_of_C HR0.out)))
                              have HC172 := Aside0.mk hC23
                              clear hA23 hC23 hi023 hsz23
                              refine start_ (n := 13) (S := fun w' => w'.cell? (ad171.add ((x36_2).toNat * 5)) = some (.int .u8 ((rd_T24 t167 x36_2).f0)) ∧ w'.cell? ⟨(ad171.add ((x36_2).toNat * 5)).block, (ad171.add ((x36_2).toNat * 5)).off + 1, none⟩ = some (.int .u8 ((rd_T24 t167 x36_2).f1)) ∧ w'.cell? ⟨(ad171.add ((x36_2).toNat * 5)).block, (ad171.add ((x36_2).toNat * 5)).off + 2, none⟩ = some (.int .u8 ((rd_T24 t167 x36_2).f2)) ∧ w'.cell? ⟨(ad171.add ((x36_2).toNat * 5)).block, (ad171.add ((x36_2).toNat * 5)).off + 3, none⟩ = some (.int .i16 ((rd_T24 t167 x36_2).f3)) ∧ w'.cell? ⟨(ad171.add ((x36_2).toNat * 5)).block, (ad171.add ((x36_2).toNat * 5)).off + 4, none⟩ = some (.int .i32 ((rd_T24 t167 x36_2).f4))) (ds := []) #[false, false, false, false, false, false, false, false, false, false, false, false, false] (by kernel_rfl) rfl rfl ⟨hx171_0, hx171_1, hx171_2, hx171_3, hx171_4⟩ (fun hHeld => ?_); refine with_tabW posternlaw02_InsnBytes.tab11 posternlaw02_InsnBytes.bits11 (fun HT_ HW_ => ?_)
                              generalize wr.drew = w22 at HO_3 HB HR172 hx171_0 hx171_1 hx171_2 hx171_3 hx171_4 hHeld ⊢
                              refine pure_ (i := 0) (N := some 39) (v := ?_) (a' := ?_) #[true, false, false, false, false, false, false, false, false, false, false, false, false] rfl rfl (any_of HT_.out (by kernel_rfl)) (fun _ _ _ h => h) (Or.inl ⟨by rfl, ?_⟩) ?_ ?_
                              rotate_left
                              · intro w'
                                go_simp
                                with_reducible rfl
                              rotate_left
                              · simp only [Act.put, List.setIfInBounds_toArray, List.set_cons_zero, List.set_cons_succ, i64_w, i32_w]
                                rfl
                              refine pure_ (i := 1) (N := some 40) (v := ?_) (a' := ?_) #[true, true, false, false, false, false, false, false, false, false, false, false, false] rfl rfl (any_of HT_.out (by kernel_rfl)) (fun _ _ _ h => h) (Or.inl ⟨by rfl, ?_⟩) ?_ ?_
                              rotate_left
                              · intro w'
                                go_simp
                                with_reducible rfl
                              rotate_left
                              · simp only [Act.put, List.setIfInBounds_toArray, List.set_cons_zero, List.set_cons_succ, i64_w, i32_w]
                                rfl
                              refine pure_ (i := 2) (N := some 41) (v := ?_) (a' := ?_) #[true, true, true, false, false, false, false, false, false, false, false, false, false] rfl rfl (any_of HT_.out (by kernel_rfl)) (fun _ _ _ h => h) (Or.inl ⟨by rfl, ?_⟩) ?_ ?_
                              rotate_left
                              · intro w'
                                go_simp
                                with_reducible rfl
                              rotate_left
                              · simp only [Act.put, List.setIfInBounds_toArray, List.set_cons_zero, List.set_cons_succ, i64_w, i32_w]
                                rfl
                              refine pure_ (i := 4) (N := some 43) (v := ?_) (a' := ?_) #[true, true, true, false, true, false, false, false, false, false, false, false, false] rfl rfl (any_of HT_.out (by kernel_rfl)) (fun _ _ _ h => h) (Or.inl ⟨by rfl, ?_⟩) ?_ ?_
                              rotate_left
                              · intro w'
                                go_simp
                                with_reducible rfl
                              rotate_left
                              · simp only [Act.put, List.setIfInBounds_toArray, List.set_cons_zero, List.set_cons_succ, i64_w, i32_w]
                                rfl
                              refine pure_ (i := 5) (N := some 44) (v := ?_) (a' := ?_) #[true, true, true, false, true, true, false, false, false, false, false, false, false] rfl rfl (any_of HT_.out (by kernel_rfl)) (fun _ _ _ h => h) (Or.inl ⟨by rfl, ?_⟩) ?_ ?_
                              rotate_left
                              · intro w'
                                go_simp
                                with_reducible rfl
                              rotate_left
                              · simp only [Act.put, List.setIfInBounds_toArray, List.set_cons_zero, List.set_cons_succ, i64_w, i32_w]
                                rfl
                              refine pure_ (i := 6) (N := some 45) (v := ?_) (a' := ?_) #[true, true, true, false, true, true, true, false, false, false, false, false, false] rfl rfl (any_of HT_.out (by kernel_rfl)) (fun _ _ _ h => h) (Or.inl ⟨by rfl, ?_⟩) ?_ ?_
                              rotate_left
                              · intro w'
                                go_simp
                                with_reducible rfl
                              rotate_left
                              · simp only [Act.put, List.setIfInBounds_toArray, List.set_cons_zero, List.set_cons_succ, i64_w, i32_w]
                                rfl
                              refine pure_ (i := 7) (N := some 46) (v := ?_) (a' := ?_) #[true, true, true, false, true, true, true, true, false, false, false, false, false] rfl rfl (any_of HT_.out (by kernel_rfl)) (fun _ _ _ h => h) (Or.inl ⟨by rfl, ?_⟩) ?_ ?_
                              rotate_left
                              · intro w'
                                go_simp
                                with_reducible rfl
                              rotate_left
                              · simp only [Act.put, List.setIfInBounds_toArray, List.set_cons_zero, List.set_cons_succ, i64_w, i32_w]
                                rfl
                              refine pure_ (i := 8) (N := some 47) (v := ?_) (a' := ?_) #[true, true, true, false, true, true, true, true, true, false, false, false, false] rfl rfl (any_of HT_.out (by kernel_rfl)) (fun _ _ _ h => h) (Or.inl ⟨by rfl, ?_⟩) ?_ ?_
                              rotate_left
                              · intro w'
                                go_simp
                                with_reducible rfl
                              rotate_left
                              · simp only [Act.put, List.setIfInBounds_toArray, List.set_cons_zero, List.set_cons_succ, i64_w, i32_w]
                                rfl
                              refine pure_ (i := 9) (N := some 48) (v := ?_) (a' := ?_) #[true, true, true, false, true, true, true, true, true, true, false, false, false] rfl rfl (any_of HT_.out (by kernel_rfl)) (fun _ _ _ h => h) (Or.inl ⟨by rfl, ?_⟩) ?_ ?_
                              rotate_left
                              · intro w'
                                go_simp
                                with_reducible rfl
                              rotate_left
                              · simp only [Act.put, List.setIfInBounds_toArray, List.set_cons_zero, List.set_cons_succ, i64_w, i32_w]
                                rfl
                              refine pure_ (i := 10) (N := some 49) (v := ?_) (a' := ?_) #[true, true, true, false, true, true, true, true, true, true, true, false, false] rfl rfl (any_of HT_.out (by kernel_rfl)) (fun _ _ _ h => h) (Or.inl ⟨by rfl, ?_⟩) ?_ ?_
                              rotate_left
                              · intro w'
                                go_simp
                                with_reducible rfl
                              rotate_left
                              · simp only [Act.put, List.setIfInBounds_toArray, List.set_cons_zero, List.set_cons_succ, i64_w, i32_w]
                                rfl
                              refine take_ (i := 3) (N := some 42) (v := ?_) (a' := ?_) #[true, true, true, true, true, true, true, true, true, true, true, false, false] rfl rfl (take_ofW HT_.out HW_.out (by kernel_rfl)) (fun _ _ _ h => h) (Or.inl ⟨by rfl, ?_⟩) hHeld ?_ ?_
                              rotate_left
                              · rintro w' ⟨s0, s1, s2, s3, s4⟩
                                go_simp
                                with_reducible rfl
                              rotate_left
                              · simp only [Act.put, List.setIfInBounds_toArray, List.set_cons_zero, List.set_cons_succ, i64_w, i32_w]
                                rfl
                              refine one_ (i := 11) (N := some 50) #[true, true, true, true, true, true, true, true, true, true, true, true, false] rfl rfl (one_of HT_.out (by kernel_rfl)) (by decide) (fun K hK => ?_)
                              refine goes_ Try.func26 (by kernel_rfl) rfl #[.slice A23 ((l0.take ((wrap64 ((ji16) + 8)) : Int).toNat).drop ((ji16) : Int).toNat).length (c0 - (ji16).toNat)] (by rfl) rfl rfl (by (try simp only [List.map_toArray, List.map_cons, List.map_nil]); first | done | (rw [show ((l0.take ((wrap64 ((ji16) + 8)) : Int).toNat).drop ((ji16) : Int).toNat).length = ((wrap64 ((ji16) + 8)).toNat - (ji16).toNat) from (by rw [List.length_drop, List.length_take]; have h_ : ((wrap64 ((ji16) + 8)) : Int) ≤ (l0.length : Int) := of_decide_eq_true (by first | (with_reducible assumption) | assumption); omega)] <;> rfl) | (simp only [hji16]; rfl) | rfl | (simp only [List.length_drop, List.length_take]; rfl)) ?_
                              with_reducible refine (posternref02_Slot.calls k2 _ _ ((l0.take ((wrap64 ((ji16) + 8)) : Int).toNat).drop ((ji16) : Int).toNat) t173 t174 t175 t176 t177 _ ?side1 ?side2 A20.out).mono ?_
                              (case side1 => repeat (first | exact (Kd.C_below HR172.out HB.out) | (with_reducible refine Kd.C_alloc ?_ _) | (with_reducible refine Kd.C_drewN ?_ _) | (with_reducible refine Kd.C_drew ?_)))
                              (case side2 => exact HC172.out)
                              rintro e w24 ⟨rfl, hb⟩
                              have HS0_ := (hb.cell (World.block_lt_of_cell? _ _ (hHeld.1))).trans (hHeld.1)
                              have HS1_ := (hb.cell (World.block_lt_of_cell? _ _ (hHeld.2.1))).trans (hHeld.2.1)
                              have HS2_ := (hb.cell (World.block_lt_of_cell? _ _ (hHeld.2.2.1))).trans (hHeld.2.2.1)
                              have HS3_ := (hb.cell (World.block_lt_of_cell? _ _ (hHeld.2.2.2.1))).trans (hHeld.2.2.2.1)
                              have HS4_ := (hb.cell (World.block_lt_of_cell? _ _ (hHeld.2.2.2.2))).trans (hHeld.2.2.2.2)
                              refine ⟨_, rfl, ?_⟩
                              have n0_ := Aside0.mk (Kd.R_below (by (with_reducible repeat (first | apply Kd.R_alloc | apply Kd.R_drewN | apply Kd.R_drew)); exact HO_3.out) hb)
                              have n1_ := Aside0.mk (below_step (by repeat (first | (with_reducible first | exact HB.out | apply below_alloc | apply pw_below_drewN | apply below_drew1) | exact HB.out)) hb)
                              clear HO_3
                              clear HB
                              have HO_3 := n0_
                              have HB := n1_
                              clear n0_ n1_
                              (try clear hb)
                              (try clear hb2)
                              (try clear hk)
                              (try clear hi)
                              refine hK.out _ _ ⟨HS0_, HS1_, HS2_, HS3_, HS4_⟩ (fun hHeld => ?_)
                              clear hK K
                              refine norm_ (a' := ?_) ?_ ?_
                              rotate_left
                              · show Act.put _ (some 50) _ = _
                                simp only [Act.put, List.setIfInBounds_toArray, List.set_cons_zero, List.set_cons_succ, i64_w, i32_w]
                                rfl
                              refine pure_ (i := 12) (N := some 51) (v := ?_) (a' := ?_) #[true, true, true, true, true, true, true, true, true, true, true, true, true] rfl rfl (any_of HT_.out (by kernel_rfl)) (fun _ _ _ h => h) (Or.inl ⟨by rfl, ?_⟩) ?_ ?_
                              rotate_left
                              · intro w'
                                go_simp
                                with_reducible rfl
                              rotate_left
                              · simp only [Act.put, List.setIfInBounds_toArray, List.set_cons_zero, List.set_cons_succ, i64_w, i32_w]
                                rfl
                              refine done_ (done_of HT_.out (by kernel_rfl)) ?_
                              try go_wp2
                              go_roundg k2
                              case measure => have := HJ5.out; have := HK2.out; omega
                              case rel => exact ⟨(wrap64 (x36_2 + 1)), (by first | rfl | (simp; done) | (simp [*]; done)), H', ⟨by have := HJ5.out; have := HK2.out; omega⟩, ⟨by (with_reducible repeat (first | apply Kd.R_alloc | apply Kd.R_drewN | apply Kd.R_drew)); exact HO_3.out⟩, ⟨by repeat (first | (with_reducible first | exact HB.out | apply below_alloc | apply pw_below_drewN | apply below_drew1) | exact HB.out)⟩⟩
                          · rw [if_neg c19] at H
                            exact absurd H (by simp)
                        · rw [if_neg c18] at H
                          exact absurd H (by simp)
                      · rw [if_neg c17] at H
                        exact absurd H (by simp)
                    · rw [if_neg c15] at H
                      exact absurd H (by simp)
                  · rw [if_neg c14] at H
                    exact absurd H (by simp)
                · rw [if_neg c13] at H
                  have c13b0 : decide (x36_2 < (t167.length : Int)) = false := decide_eq_false c13
                  clear c13
                  replace H := Option.bind_eq_some_iff.mp H
                  obtain ⟨t178, A250, H⟩ := H
                  replace H : (some ((strOfNums t178).toList == (strOfNums l0).toList)) = some r := H
                  have A25 := Aside0.mk A250
                  clear A250
                  obtain rfl := Option.some.inj H
                  try go_wp2
                  have n0_ := Aside0.mk (Kd.R_drew HO_3.out)
                  have n1_ := Aside0.mk (below_drew1 HB.out)
                  clear HO_3
                  clear HB
                  have HO_3 := n0_
                  have HB := n1_
                  clear n0_ n1_
                  refine start_ (n := 7) (S := fun w' => Kd.C (Kd.int .u8) w' A0 l0.length l0) (ds := []) #[false, false, false, false, false, false, false] (by kernel_rfl) rfl rfl (Kd.C_below HR0.out HB.out) (fun hHeld => ?_)
                  generalize wr.drew = w26 at HO_3 HB hHeld ⊢
                  refine pure_ (i := 0) (N := some 53) (v := ?_) (a' := ?_) #[true, false, false, false, false, false, false] rfl rfl (by kernel_rfl) (fun _ _ _ h => h) (Or.inl ⟨by rfl, ?_⟩) ?_ ?_
                  rotate_left
                  · intro w'
                    go_simp
                    with_reducible rfl
                  rotate_left
                  · simp only [Act.put, List.setIfInBounds_toArray, List.set_cons_zero, List.set_cons_succ, i64_w, i32_w]
                    rfl
                  refine pure_ (i := 3) (N := some 56) (v := ?_) (a' := ?_) #[true, false, false, true, false, false, false] rfl rfl (by kernel_rfl) (fun _ _ _ h => h) (Or.inl ⟨by rfl, ?_⟩) ?_ ?_
                  rotate_left
                  · intro w'
                    go_simp
                    with_reducible rfl
                  rotate_left
                  · simp only [Act.put, List.setIfInBounds_toArray, List.set_cons_zero, List.set_cons_succ, i64_w, i32_w]
                    rfl
                  refine take_ (i := 4) (N := some 57) (v := ?_) (a' := ?_) #[true, false, false, true, true, false, false] rfl rfl (by kernel_rfl) (fun _ _ _ h => h) (Or.inl ⟨by rfl, ?_⟩) hHeld ?_ ?_
                  rotate_left
                  · intro w' hS
                    have hcv_ := Kd.C_string (P := Try.prog) (A := A0) (c := c0) Try.underlying35 Try.underlying5 Try.underlying9 hS
                    go_simp
                    rfl
                  rotate_left
                  · simp only [Act.put, List.setIfInBounds_toArray, List.set_cons_zero, List.set_cons_succ, i64_w, i32_w]
                    rfl
                  refine one_ (i := 1) (N := some 54) #[true, true, false, true, true, false, false] rfl rfl (by kernel_rfl) (by decide) (fun K hK => ?_)
                  refine goes_ Try.func27 (by kernel_rfl) rfl #[.slice Ao12 t167.length co12] (by rfl) rfl rfl (by (try simp only [List.map_toArray, List.map_cons, List.map_nil]); first | done | rfl | (simp only [List.length_drop, List.length_take]; rfl)) ?_
                  with_reducible refine (insn_Encode.calls k2 _ _ t167 t178 _ ?side1 ?side2 A25.out).mono ?_
                  (case side1 => repeat (first | exact (Kd.R_reads' HO_3.out).2.2 | (with_reducible refine Kd.C_alloc ?_ _) | (with_reducible refine Kd.C_drewN ?_ _) | (with_reducible refine Kd.C_drew ?_)))
                  (case side2 => exact (Kd.R_reads' HO_3.out).2.1)
                  rintro e w27 ⟨v179, rfl, ho0, hb⟩
                  refine ⟨_, rfl, ?_⟩
                  have n0_ := Aside0.mk (Kd.R_below (by (with_reducible repeat (first | apply Kd.R_alloc | apply Kd.R_drewN | apply Kd.R_drew)); exact HO_3.out) hb)
                  have n1_ := Aside0.mk (Kd.R_lower ho0 (below_size (by repeat (first | (with_reducible first | exact HB.out | apply below_alloc | apply pw_below_drewN | apply below_drew1) | exact HB.out))))
                  have n2_ := Aside0.mk (below_step (by repeat (first | (with_reducible first | exact HB.out | apply below_alloc | apply pw_below_drewN | apply below_drew1) | exact HB.out)) hb)
                  clear HO_3
                  clear HB
                  have HO_3 := n0_
                  have HO180 := n1_
                  have HB := n2_
                  clear n0_ n1_ n2_
                  (try clear hb)
                  (try clear hb2)
                  (try clear hk)
                  (try clear hi)
                  (try clear ho0)
                  have hcv29 := Kd.C_string (P := Try.prog) (A := A0) (c := c0) Try.underlying35 Try.underlying5 Try.underlying9 (Kd.C_below HR0.out HB.out)
                  refine hK.out _ _ (Kd.C_below HR0.out HB.out) (fun hHeld => ?_)
                  clear hK K
                  refine norm_ (a' := ?_) ?_ ?_
                  rotate_left
                  · show Act.put _ (some 54) _ = _
                    simp only [Act.put, List.setIfInBounds_toArray, List.set_cons_zero, List.set_cons_succ, i64_w, i32_w]
                    rfl
                  refine one_ (i := 2) (N := some 55) #[true, true, true, true, true, false, false] rfl rfl (by kernel_rfl) (by decide) (fun K hK => ?_)
                  have hcv28 := own_string (P := Try.prog) Try.underlying35 Try.underlying5 Try.underlying9 (Kd.own_of_R HO180.out)
                  refine value_ (w1 := ?_) (v := ?_) (by rfl) rfl ?_ ?_
                  rotate_left 2
                  · go_simp
                    constructor
                    · rfl
                    · rfl
                  clear hcv28
                  refine hK.out _ _ (Kd.C_below HR0.out HB.out) (fun hHeld => ?_)
                  clear hK K
                  refine norm_ (a' := ?_) ?_ ?_
                  rotate_left
                  · show Act.put _ (some 55) _ = _
                    simp only [Act.put, List.setIfInBounds_toArray, List.set_cons_zero, List.set_cons_succ, i64_w, i32_w]
                    rfl
                  refine pure_ (i := 5) (N := some 58) (v := ?_) (a' := ?_) #[true, true, true, true, true, true, false] rfl rfl (by kernel_rfl) (fun _ _ _ h => h) (Or.inl ⟨by rfl, ?_⟩) ?_ ?_
                  rotate_left
                  · intro w'
                    go_simp
                    with_reducible rfl
                  rotate_left
                  · simp only [Act.put, List.setIfInBounds_toArray, List.set_cons_zero, List.set_cons_succ, i64_w, i32_w]
                    rfl
                  refine pure_ (i := 6) (N := some 2) (v := ?_) (a' := ?_) #[true, true, true, true, true, true, true] rfl rfl (by kernel_rfl) (fun _ _ _ h => h) (Or.inl ⟨by rfl, ?_⟩) ?_ ?_
                  rotate_left
                  · intro w'
                    go_simp
                    with_reducible rfl
                  rotate_left
                  · simp only [Act.put, List.setIfInBounds_toArray, List.set_cons_zero, List.set_cons_succ, i64_w, i32_w]
                    rfl
                  refine done_ (by kernel_rfl) ?_
                  try go_wp2
                  go_ret
                  exact ⟨by first | rfl | (simp [errW_none, errW_some] <;> rfl) | (simp [*, errW_none, errW_some] <;> rfl), by repeat (first | (with_reducible first | exact HB.out | apply below_alloc | apply pw_below_drewN | apply below_drew1) | exact HB.out)⟩
    · rw [if_neg c5] at H
      have c5b0 : (((l0.length : Int) % 8) == 0) = false := beq_eq_false_iff_ne.mpr c5
      have c5b1 : (((l0.length : Int) % 8) != 0) = true := bne_iff_ne.mpr c5
      by_cases c31 : t170 = 20
      · rw [if_pos c31] at H
        have c31b0 : (t170 == 20) = true := beq_iff_eq.mpr c31
        have c31b1 : (t170 != 20) = false := bne_eq_false_iff_eq.mpr c31
        clear c31
        obtain rfl := Option.some.inj H
        go_enter Try.func5, Try.ntmps5
        go_wp2_with (first | ((with_reducible refine gate_callee (f := 13) rfl ?_); refine goesL_ (some 6) rfl rfl Try.func13 (by kernel_rfl) rfl #[] rfl (by (try simp only [List.map_toArray, List.map_cons, List.map_nil]); first | done | rfl | (simp only [List.length_drop, List.length_take]; rfl)) ?_; (with_reducible refine (posternlaw02_first.calls k  true _ A2.out).mono ?_); rintro e w32 ⟨rfl, hb⟩; refine ⟨_, rfl, ?_⟩; have n0_ := Aside0.mk (below_step (by repeat (first | (with_reducible first | exact HB.out | apply below_alloc | apply pw_below_drewN | apply below_drew1) | exact HB.out)) hb); clear HB; have HB := n0_; clear n0_; (try clear hb); (try clear hb2); (try clear hk); (try clear hi)) | ((with_reducible refine gate_callee (f := 25) rfl ?_); refine goesL_ (some 10) rfl rfl Try.func25 (by kernel_rfl) rfl #[.slice A0 l0.length c0] rfl (by (try simp only [List.map_toArray, List.map_cons, List.map_nil]); first | done | rfl | (simp only [List.length_drop, List.length_take]; rfl)) ?_; (with_reducible refine (insn_Decode.calls k (fun k_ => k_ < w.heap.size) _ _ l0 t167 t170 _ ?side1 A4.out).mono ?_); (case side1 => exact Kd.V_mk HC0.out (Kd.F_below (Kd.C_F (Kd.heap_int .u8) HR0.out) (by repeat (first | (with_reducible first | exact HB.out | apply below_alloc | apply pw_below_drewN | apply below_drew1) | exact HB.out)))); rintro e w33 ⟨v168, rfl, ho0, hb⟩; refine ⟨_, rfl, ?_⟩; have n0_ := Aside0.mk (Kd.R_lower (Kd.R_mono (ok' := fun k_ => True) ho0 (fun _ hk_ => trivial)) (below_size (by repeat (first | (with_reducible first | exact HB.out | apply below_alloc | apply pw_below_drewN | apply below_drew1) | exact HB.out)))); have n1_ := Aside0.mk (below_step (by repeat (first | (with_reducible first | exact HB.out | apply below_alloc | apply pw_below_drewN | apply below_drew1) | exact HB.out)) hb); clear HB; have HO169 := n0_; have HB := n1_; clear n0_ n1_; (try clear hb); (try clear hb2); (try clear hk); (try clear hi); (try clear ho0); obtain ⟨Ao34, co34, eo34⟩ := Kd.R_slice HO169.out; subst eo34))
        go_ret
        exact ⟨by first | rfl | (simp [errW_none, errW_some] <;> rfl) | (simp [*, errW_none, errW_some] <;> rfl), by repeat (first | (with_reducible first | exact HB.out | apply below_alloc | apply pw_below_drewN | apply below_drew1) | exact HB.out)⟩
      · rw [if_neg c31] at H
        have c31b0 : (t170 == 20) = false := beq_eq_false_iff_ne.mpr c31
        have c31b1 : (t170 != 20) = true := bne_iff_ne.mpr c31
        exact absurd (H.trans (congrArg some hr_.out)) (by simp)
  · replace c3 := Bool.eq_false_iff.mpr c3
    subst c3
    have H1 : (some false) = some r := by rw [if_neg (show ¬ (false = true) by decide)] at H; exact H
    clear H
    have H := H1
    clear H1
    exact absurd (H.trans (congrArg some hr_.out)) (by simp)

/-- THE ONE PURE STATEMENT of posternlaw02_InsnBytes: yours. -/
def posternlaw02_InsnBytes.Pure : Prop := ∀ (l0 : List Int), l0.length ≤ maxLen → l0.length * 1 ≤ 140737488351232 → (∀ x ∈ l0, (Lit.int .u8 x).wf = true) → ∃ k, posternlaw02_InsnBytes.f k l0 = some true
theorem posternlaw02_InsnBytes.walk (P : posternlaw02_InsnBytes.Pure) (a0 : Option Addr) (len0 cap0 : Nat) (z0 : List Int) (w : World) (w0 : (a0 = none ∧ len0 = 0 ∧ cap0 = 0 ∧ z0 = []) ∨ ∃ x, a0 = some x ∧ len0 ≤ cap0 ∧ cap0 ≤ maxLen ∧ z0.length = cap0 ∧ (∀ i, i < z0.length → w.cell? (x.add i) = some (.int .u8 (z0.getD i 0))) ∧ ∀ n ∈ z0, (Lit.int .u8 n).wf = true) (y0 : len0 * 1 ≤ 140737488351232) :
    Calls Try.prog 5 #[.slice a0 len0 cap0] w fun e w' => e = .returned (.bool true) ∧ Below w.heap.size w w' := by
  obtain ⟨l0, rfl, hr0, hm0, hw0, hc0⟩ := ReadsInt.ofRowC w0
  obtain ⟨k, h⟩ := P l0 hm0 y0 hw0
  refine (posternlaw02_InsnBytes.calls k _ _ l0 true w ⟨rfl⟩ (Kd.C_of_reads (d := (0 : Int)) (h1 := fun _ => rfl) hr0) hc0 h).mono ?_
  rintro e w' ⟨rfl, hd⟩
  exact ⟨rfl, hd⟩

end Go.Proofs.Ytpkgegklpbholaa.PInsnBytes
