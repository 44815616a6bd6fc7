-- Written by a program of this session (a variant of the print), for this claim. Lean checks it.
import Derived.Test.YtpkgegklpbholaaPAluDox0
import Derived.Test.YtpkgegklpbholaaPAluDox1
import Derived.Test.YtpkgegklpbholaaPAluDox2
namespace Go.Proofs.Ytpkgegklpbholaa.PAluDo
open Go.RowKit Go.Proofs.YtpkgegklpbholaaW.PrintWords Go.Proofs.YtpkgegklpbholaaW.PrintLast Go.Proofs.YtpkgegklpbholaaW.PrintMore
attribute [local go_sem] max2_int min2_int max_two min_two max_three min_three max_four min_four   -- for this text's walks alone
set_option linter.unusedVariables false
set_option linter.unusedSimpArgs false

/-! ### posternlaw05_AluDo: function 7 -/
def posternlaw05_AluDo.l0 : Nat → Int → Int → Int → List Bool → Int → Int → Option (Bool)
  | 0, _, _, _, _, _, _ => none
  | k + 1, x0, x1, x2, x15, x16, x17 => if x17 < x16 then (if 0 ≤ x17 then (if x17 < (x15.length : Int) then ((alu_Do.f x0 (rdOf false x15 x17) x1 x2).bind fun bt119 => ((posternlaw05_bits.f (rdOf false x15 x17)).bind fun t121 => ((posternref05_Do.f k x0 t121 x1 x2).bind fun bt122 => (if bt122.2 = true then (if bt119.1 = bt122.1 then (if bt119.2 = 0 then (posternlaw05_AluDo.l0 k x0 x1 x2 x15 x16 (wrap64 (x17 + 1))) else (some false)) else (some false)) else (if bt119.1 = 0 then (if bt119.2 = 2 then (posternlaw05_AluDo.l0 k x0 x1 x2 x15 x16 (wrap64 (x17 + 1))) else (some false)) else (some false)))))) else (none)) else (none)) else (some true)
def posternlaw05_AluDo.f (k : Nat) (a0 : Int) (a1 : Int) (a2 : Int) : Option (Bool) := (posternlaw05_first.f k).bind fun t114 => (if t114 = true then ((some (([true, false] : List Bool) : List Bool)).bind fun y115 => (posternlaw05_AluDo.l0 k a0 a1 a2 y115 (y115.length : Int) 0)) else (some false))
theorem posternlaw05_AluDo.mono_l : ∀ k, (∀ y0 y1 y2 y3 y4 y5, LeO (posternlaw05_AluDo.l0 k y0 y1 y2 y3 y4 y5) (posternlaw05_AluDo.l0 (k + 1) y0 y1 y2 y3 y4 y5))
  | 0 => fun _ _ _ _ _ _ r h => by simp [posternlaw05_AluDo.l0] at h
  | k + 1 => by
    have ih0 := posternlaw05_AluDo.mono_l k
    · intro y0 y1 y2 y3 y4 y5
      unfold posternlaw05_AluDo.l0
      repeat' first
      | (with_reducible exact ih0 _ _ _ _ _ _)
      | (with_reducible exact posternlaw05_first.mono _)
      | (with_reducible exact posternref05_Do.mono _ _ _ _ _)
      | (with_reducible exact LeO.refl _)
      | (with_reducible exact LeO.none _)
      | (with_reducible refine LeO.ite ?_ ?_)
      | (with_reducible refine LeO.bind ?_ (fun _ => ?_))
      | exact ih0 _ _ _ _ _ _
      | exact posternlaw05_first.mono _
      | exact posternref05_Do.mono _ _ _ _ _
      | exact LeO.none _
      | refine LeO.ite ?_ ?_
      | refine LeO.bind ?_ (fun _ => ?_)
theorem posternlaw05_AluDo.mono : ∀ a0 a1 a2 k, LeO (posternlaw05_AluDo.f k a0 a1 a2) (posternlaw05_AluDo.f (k + 1) a0 a1 a2) := by
  intro a0 a1 a2 k
  have ih0 := posternlaw05_AluDo.mono_l k
  unfold posternlaw05_AluDo.f
  repeat' first
      | (with_reducible exact ih0 _ _ _ _ _ _)
      | (with_reducible exact posternlaw05_first.mono _)
      | (with_reducible exact posternref05_Do.mono _ _ _ _ _)
      | (with_reducible exact LeO.refl _)
      | (with_reducible exact LeO.none _)
      | (with_reducible refine LeO.ite ?_ ?_)
      | (with_reducible refine LeO.bind ?_ (fun _ => ?_))
      | exact ih0 _ _ _ _ _ _
      | exact posternlaw05_first.mono _
      | exact posternref05_Do.mono _ _ _ _ _
      | exact LeO.none _
      | refine LeO.ite ?_ ?_
      | refine LeO.bind ?_ (fun _ => ?_)
set_option maxHeartbeats 8000000 in
set_option maxRecDepth 100000 in
theorem posternlaw05_AluDo.calls (k : Nat) (a0 : Int) (a1 : Int) (a2 : Int) (r : Bool) (w : World) (h : posternlaw05_AluDo.f k a0 a1 a2 = some r) :
    Calls Try.prog 7 #[.int .i64 a0, .int .u64 a1, .int .u64 a2] w fun e w' => e = .returned (.bool r) ∧ Below w.heap.size w w' := by
  have HB := Aside0.mk (Below.refl w.heap.size w)
  have H : ((posternlaw05_first.f k).bind fun t114 => (if t114 = true then ((some (([true, false] : List Bool) : List Bool)).bind fun y115 => (posternlaw05_AluDo.l0 k a0 a1 a2 y115 (y115.length : Int) 0)) else (some false))) = some r := h
  clear h
  replace H := Option.bind_eq_some_iff.mp H
  obtain ⟨t114, A40, H⟩ := H
  replace H : (if t114 = true then ((some (([true, false] : List Bool) : List Bool)).bind fun y115 => (posternlaw05_AluDo.l0 k a0 a1 a2 y115 (y115.length : Int) 0)) else (some false)) = some r := H
  have A4 := Aside0.mk A40
  clear A40
  by_cases c5 : t114 = true
  · subst c5
    have H1 : ((some (([true, false] : List Bool) : List Bool)).bind fun y115 => (posternlaw05_AluDo.l0 k a0 a1 a2 y115 (y115.length : Int) 0)) = some r := by rw [if_pos rfl] at H; exact H
    clear H
    have H := H1
    clear H1
    obtain ⟨y115, hy115⟩ : ∃ y_ : List Bool, y_ = (([true, false] : List Bool)) := ⟨_, rfl⟩
    replace H : (posternlaw05_AluDo.l0 k a0 a1 a2 y115 (y115.length : Int) 0) = some r := by first | (rw [hy115]; with_reducible exact H) | (have H2_ := (Option.bind_some _ _).symm.trans H; rw [hy115]; with_reducible exact H2_) | (have H2_ := (Option.bind_some _ _).symm.trans H; with_reducible exact H2_) | with_reducible exact H | (rw [hy115]; exact H) | exact H
    have Ny115 := Aside0.mk hy115
    clear hy115
    have H' := Aside0.mk H
    clear H
    go_enter Try.func7, Try.ntmps7
    go_wp2_with (first | ((with_reducible refine gate_callee (f := 29) rfl ?_); refine goesL_ (some 13) rfl rfl Try.func29 (by kernel_rfl) rfl #[] rfl (by (try simp only [List.map_toArray, List.map_cons, List.map_nil]); first | done | rfl | (simp only [List.length_drop, List.length_take]; rfl)) ?_; (with_reducible refine (posternlaw05_first.calls k  true _ A4.out).mono ?_); rintro e w' ⟨rfl, ⟨nd, rfl⟩⟩; refine ⟨_, rfl, ?_⟩) | ((with_reducible refine gate_dst (N := 15) rfl ?_); refine Kd.R_lit Kd.bool _ 4 ?hg (N := 15) ?hd (xs := ([true, false] : List Bool)) (inner := [.bool true, .bool false]) (ok := fun _ => True) (okp := fun _ => True) ?hr ?hp (fun _ hk => hk) trivial (Below.refl _ _) (Nat.le_refl _) (by simp) ?_; (case hd => rfl); (case hg => rfl); (case hr => first | (go_simp; done) | (go_simp; rfl)); (case hp => exact (Reps.one (show Kd.M Kd.bool _ _ _ true [.bool true] from rfl) (Reps.one (show Kd.M Kd.bool _ _ _ false [.bool false] from rfl) (Reps.none _ _)))); intro v116 w6 ho7 hb hg_ hnew_; clear hg_ hnew_; (first | rw [← Ny115.out] at ho7 | (simp only [Int.reduceToNat] at ho7; rw [← Ny115.out] at ho7)); have n0_ := Aside0.mk (Kd.R_lower ho7 (below_size (by repeat (first | (with_reducible first | exact HB.out | apply below_alloc | apply pw_below_drewN | apply below_drew1) | exact HB.out)))); have n1_ := Aside0.mk (below_step (by repeat (first | (with_reducible first | exact HB.out | apply below_alloc | apply pw_below_drewN | apply below_drew1) | exact HB.out)) hb); clear HB; have HO117 := n0_; have HB := n1_; clear n0_ n1_; clear hb ho7; obtain ⟨Ao8, co8, eo8⟩ := Kd.R_slice HO117.out; subst eo8))
    go_loopg [17] k (fun kq v17 w' => ∃ (x17_1 : Int), v17 = .int .i64 x17_1 ∧ Aside0 (posternlaw05_AluDo.l0 kq a0 a1 a2 y115 (y115.length : Int) x17_1 = some r) ∧ Aside0 (kq ≤ k) ∧ Aside0 (Kd.R Kd.bool 4 w' w.heap.size (fun _ => True) (.slice Ao8 y115.length co8) y115) ∧ Aside0 (Below w.heap.size w w'))
    case atStart => exact ⟨(0), (by first | rfl | (simp; done) | (simp [*]; done)), H', ⟨Nat.le_refl _⟩, ⟨by (with_reducible repeat (first | apply Kd.R_alloc | apply Kd.R_drewN | apply Kd.R_drew)); exact HO117.out⟩, ⟨by repeat (first | (with_reducible first | exact HB.out | apply below_alloc | apply pw_below_drewN | apply below_drew1) | exact HB.out)⟩⟩
    case round =>
      clear H'
      try clear c2
      try clear p2
      try clear c5
      try clear c7
      obtain ⟨x17_1, rfl, HA, HK1, HO_15, HB⟩ := hrel
      cases gk with
      | zero => exact absurd HA.out (by simp [posternlaw05_AluDo.l0])
      | succ k1 =>
        have H := HA.out
        clear HA
        simp only [posternlaw05_AluDo.l0] at H
        by_cases c9 : x17_1 < (y115.length : Int)
        · rw [if_pos c9] at H
          have c9b0 : decide (x17_1 < (y115.length : Int)) = true := decide_eq_true c9
          clear c9
          by_cases c10 : 0 ≤ x17_1
          · rw [if_pos c10] at H
            have c10b0 : decide (0 ≤ x17_1) = true := decide_eq_true c10
            clear c10
            by_cases c11 : x17_1 < (y115.length : Int)
            · rw [if_pos c11] at H
              have c11b0 : decide (x17_1 < (y115.length : Int)) = true := decide_eq_true c11
              clear c11
              replace H := Option.bind_eq_some_iff.mp H
              obtain ⟨⟨t119, t120⟩, A120, H⟩ := H
              replace H : ((posternlaw05_bits.f (rdOf false y115 x17_1)).bind fun t121 => ((posternref05_Do.f k1 a0 t121 a1 a2).bind fun bt122 => (if bt122.2 = true then (if t119 = bt122.1 then (if t120 = 0 then (posternlaw05_AluDo.l0 k1 a0 a1 a2 y115 (y115.length : Int) (wrap64 (x17_1 + 1))) else (some false)) else (some false)) else (if t119 = 0 then (if t120 = 2 then (posternlaw05_AluDo.l0 k1 a0 a1 a2 y115 (y115.length : Int) (wrap64 (x17_1 + 1))) else (some false)) else (some false))))) = some r := H
              have A12 := Aside0.mk A120
              clear A120
              replace H := Option.bind_eq_some_iff.mp H
              obtain ⟨t121, A130, H⟩ := H
              replace H : ((posternref05_Do.f k1 a0 t121 a1 a2).bind fun bt122 => (if bt122.2 = true then (if t119 = bt122.1 then (if t120 = 0 then (posternlaw05_AluDo.l0 k1 a0 a1 a2 y115 (y115.length : Int) (wrap64 (x17_1 + 1))) else (some false)) else (some false)) else (if t119 = 0 then (if t120 = 2 then (posternlaw05_AluDo.l0 k1 a0 a1 a2 y115 (y115.length : Int) (wrap64 (x17_1 + 1))) else (some false)) else (some false)))) = some r := H
              have A13 := Aside0.mk A130
              clear A130
              replace H := Option.bind_eq_some_iff.mp H
              obtain ⟨⟨t122, t123⟩, A140, H⟩ := H
              replace H : (if t123 = true then (if t119 = t122 then (if t120 = 0 then (posternlaw05_AluDo.l0 k1 a0 a1 a2 y115 (y115.length : Int) (wrap64 (x17_1 + 1))) else (some false)) else (some false)) else (if t119 = 0 then (if t120 = 2 then (posternlaw05_AluDo.l0 k1 a0 a1 a2 y115 (y115.length : Int) (wrap64 (x17_1 + 1))) else (some false)) else (some false))) = some r := H
              have A14 := Aside0.mk A140
              clear A140
              by_cases c15 : t123 = true
              · subst c15
                have H1 : (if t119 = t122 then (if t120 = 0 then (posternlaw05_AluDo.l0 k1 a0 a1 a2 y115 (y115.length : Int) (wrap64 (x17_1 + 1))) else (some false)) else (some false)) = some r := by rw [if_pos rfl] at H; exact H
                clear H
                have H := H1
                clear H1
                by_cases c16 : t119 = t122
                · rw [if_pos c16] at H
                  have c16b0 : (t119 == t122) = true := beq_iff_eq.mpr c16
                  have c16b1 : (t119 != t122) = false := bne_eq_false_iff_eq.mpr c16
                  clear c16
                  by_cases c17 : t120 = 0
                  · rw [if_pos c17] at H
                    have c17b0 : (t120 == 0) = true := beq_iff_eq.mpr c17
                    have c17b1 : (t120 != 0) = false := bne_eq_false_iff_eq.mpr c17
                    clear c17
                    have H' := Aside0.mk H
                    clear H
                    have p118 : 0 ≤ (x17_1 : Int) := of_decide_eq_true (by first | (with_reducible assumption) | assumption)
                    have q118 : x17_1 < (y115.length : Int) := of_decide_eq_true (by first | (with_reducible assumption) | assumption)
                    obtain ⟨ad118, e118, hx118_0⟩ := Kd.at_bool (Kd.R_reads' HO_15.out).2.2 x17_1 p118 q118
                    cases e118
                    replace p118 := eq_true p118
                    replace q118 := eq_true q118
                    go_wp2_with (first | ((with_reducible refine gate_callee (f := 30) rfl ?_); refine goesL_ (some 26) rfl rfl Try.func30 (by kernel_rfl) rfl #[.int .i64 a0, .bool (rdOf false y115 x17_1), .int .u64 a1, .int .u64 a2] rfl (by (try simp only [List.map_toArray, List.map_cons, List.map_nil]); first | done | rfl | (simp only [List.length_drop, List.length_take]; rfl)) ?_; (with_reducible refine (alu_Do.calls a0 (rdOf false y115 x17_1) a1 a2 t119 t120 _ A12.out).mono ?_); rintro e w' ⟨rfl, ⟨nd, rfl⟩⟩; refine ⟨_, rfl, ?_⟩) | ((with_reducible refine gate_callee (f := 32) rfl ?_); refine goesL_ (some 32) rfl rfl Try.func32 (by kernel_rfl) rfl #[.bool (rdOf false y115 x17_1)] rfl (by (try simp only [List.map_toArray, List.map_cons, List.map_nil]); first | done | rfl | (simp only [List.length_drop, List.length_take]; rfl)) ?_; (with_reducible refine (posternlaw05_bits.calls (rdOf false y115 x17_1) t121 _ A13.out).mono ?_); rintro e w' ⟨rfl, ⟨nd, rfl⟩⟩; refine ⟨_, rfl, ?_⟩) | ((with_reducible refine gate_callee (f := 31) rfl ?_); refine goesL_ (some 35) rfl rfl Try.func31 (by kernel_rfl) rfl #[.int .i64 a0, .int .i64 t121, .int .u64 a1, .int .u64 a2] rfl (by (try simp only [List.map_toArray, List.map_cons, List.map_nil]); first | done | rfl | (simp only [List.length_drop, List.length_take]; rfl)) ?_; (with_reducible refine (posternref05_Do.calls k1 a0 t121 a1 a2 t122 true _ A14.out).mono ?_); rintro e w' ⟨rfl, ⟨nd, rfl⟩⟩; refine ⟨_, rfl, ?_⟩))
                    go_roundg k1
                    case measure => have := HK1.out; omega
                    case rel => exact ⟨(wrap64 (x17_1 + 1)), (by first | rfl | (simp; done) | (simp [*]; done)), H', ⟨by have := HK1.out; omega⟩, ⟨by (with_reducible repeat (first | apply Kd.R_alloc | apply Kd.R_drewN | apply Kd.R_drew)); exact HO_15.out⟩, ⟨by repeat (first | (with_reducible first | exact HB.out | apply below_alloc | apply pw_below_drewN | apply below_drew1) | exact HB.out)⟩⟩
                  · rw [if_neg c17] at H
                    have c17b0 : (t120 == 0) = false := beq_eq_false_iff_ne.mpr c17
                    have c17b1 : (t120 != 0) = true := bne_iff_ne.mpr c17
                    obtain rfl := Option.some.inj H
                    have p118 : 0 ≤ (x17_1 : Int) := of_decide_eq_true (by first | (with_reducible assumption) | assumption)
                    have q118 : x17_1 < (y115.length : Int) := of_decide_eq_true (by first | (with_reducible assumption) | assumption)
                    obtain ⟨ad118, e118, hx118_0⟩ := Kd.at_bool (Kd.R_reads' HO_15.out).2.2 x17_1 p118 q118
                    cases e118
                    replace p118 := eq_true p118
                    replace q118 := eq_true q118
                    go_wp2_with (first | ((with_reducible refine gate_callee (f := 30) rfl ?_); refine goesL_ (some 26) rfl rfl Try.func30 (by kernel_rfl) rfl #[.int .i64 a0, .bool (rdOf false y115 x17_1), .int .u64 a1, .int .u64 a2] rfl (by (try simp only [List.map_toArray, List.map_cons, List.map_nil]); first | done | rfl | (simp only [List.length_drop, List.length_take]; rfl)) ?_; (with_reducible refine (alu_Do.calls a0 (rdOf false y115 x17_1) a1 a2 t119 t120 _ A12.out).mono ?_); rintro e w' ⟨rfl, ⟨nd, rfl⟩⟩; refine ⟨_, rfl, ?_⟩) | ((with_reducible refine gate_callee (f := 32) rfl ?_); refine goesL_ (some 32) rfl rfl Try.func32 (by kernel_rfl) rfl #[.bool (rdOf false y115 x17_1)] rfl (by (try simp only [List.map_toArray, List.map_cons, List.map_nil]); first | done | rfl | (simp only [List.length_drop, List.length_take]; rfl)) ?_; (with_reducible refine (posternlaw05_bits.calls (rdOf false y115 x17_1) t121 _ A13.out).mono ?_); rintro e w' ⟨rfl, ⟨nd, rfl⟩⟩; refine ⟨_, rfl, ?_⟩) | ((with_reducible refine gate_callee (f := 31) rfl ?_); refine goesL_ (some 35) rfl rfl Try.func31 (by kernel_rfl) rfl #[.int .i64 a0, .int .i64 t121, .int .u64 a1, .int .u64 a2] rfl (by (try simp only [List.map_toArray, List.map_cons, List.map_nil]); first | done | rfl | (simp only [List.length_drop, List.length_take]; rfl)) ?_; (with_reducible refine (posternref05_Do.calls k1 a0 t121 a1 a2 t122 true _ A14.out).mono ?_); rintro e w' ⟨rfl, ⟨nd, rfl⟩⟩; refine ⟨_, rfl, ?_⟩))
                    go_ret
                    exact ⟨by first | rfl | (simp [errW_none, errW_some] <;> rfl) | (simp [*, errW_none, errW_some] <;> rfl), by repeat (first | (with_reducible first | exact HB.out | apply below_alloc | apply pw_below_drewN | apply below_drew1) | exact HB.out)⟩
                · rw [if_neg c16] at H
                  have c16b0 : (t119 == t122) = false := beq_eq_false_iff_ne.mpr c16
                  have c16b1 : (t119 != t122) = true := bne_iff_ne.mpr c16
                  obtain rfl := Option.some.inj H
                  have p118 : 0 ≤ (x17_1 : Int) := of_decide_eq_true (by first | (with_reducible assumption) | assumption)
                  have q118 : x17_1 < (y115.length : Int) := of_decide_eq_true (by first | (with_reducible assumption) | assumption)
                  obtain ⟨ad118, e118, hx118_0⟩ := Kd.at_bool (Kd.R_reads' HO_15.out).2.2 x17_1 p118 q118
                  cases e118
                  replace p118 := eq_true p118
                  replace q118 := eq_true q118
                  go_wp2_with (first | ((with_reducible refine gate_callee (f := 30) rfl ?_); refine goesL_ (some 26) rfl rfl Try.func30 (by kernel_rfl) rfl #[.int .i64 a0, .bool (rdOf false y115 x17_1), .int .u64 a1, .int .u64 a2] rfl (by (try simp only [List.map_toArray, List.map_cons, List.map_nil]); first | done | rfl | (simp only [List.length_drop, List.length_take]; rfl)) ?_; (with_reducible refine (alu_Do.calls a0 (rdOf false y115 x17_1) a1 a2 t119 t120 _ A12.out).mono ?_); rintro e w' ⟨rfl, ⟨nd, rfl⟩⟩; refine ⟨_, rfl, ?_⟩) | ((with_reducible refine gate_callee (f := 32) rfl ?_); refine goesL_ (some 32) rfl rfl Try.func32 (by kernel_rfl) rfl #[.bool (rdOf false y115 x17_1)] rfl (by (try simp only [List.map_toArray, List.map_cons, List.map_nil]); first | done | rfl | (simp only [List.length_drop, List.length_take]; rfl)) ?_; (with_reducible refine (posternlaw05_bits.calls (rdOf false y115 x17_1) t121 _ A13.out).mono ?_); rintro e w' ⟨rfl, ⟨nd, rfl⟩⟩; refine ⟨_, rfl, ?_⟩) | ((with_reducible refine gate_callee (f := 31) rfl ?_); refine goesL_ (some 35) rfl rfl Try.func31 (by kernel_rfl) rfl #[.int .i64 a0, .int .i64 t121, .int .u64 a1, .int .u64 a2] rfl (by (try simp only [List.map_toArray, List.map_cons, List.map_nil]); first | done | rfl | (simp only [List.length_drop, List.length_take]; rfl)) ?_; (with_reducible refine (posternref05_Do.calls k1 a0 t121 a1 a2 t122 true _ A14.out).mono ?_); rintro e w' ⟨rfl, ⟨nd, rfl⟩⟩; refine ⟨_, rfl, ?_⟩))
                  go_ret
                  exact ⟨by first | rfl | (simp [errW_none, errW_some] <;> rfl) | (simp [*, errW_none, errW_some] <;> rfl), by repeat (first | (with_reducible first | exact HB.out | apply below_alloc | apply pw_below_drewN | apply below_drew1) | exact HB.out)⟩
              · replace c15 := Bool.eq_false_iff.mpr c15
                subst c15
                have H1 : (if t119 = 0 then (if t120 = 2 then (posternlaw05_AluDo.l0 k1 a0 a1 a2 y115 (y115.length : Int) (wrap64 (x17_1 + 1))) else (some false)) else (some false)) = some r := by rw [if_neg (show ¬ (false = true) by decide)] at H; exact H
                clear H
                have H := H1
                clear H1
                by_cases c18 : t119 = 0
                · rw [if_pos c18] at H
                  have c18b0 : (t119 == 0) = true := beq_iff_eq.mpr c18
                  have c18b1 : (t119 != 0) = false := bne_eq_false_iff_eq.mpr c18
                  clear c18
                  by_cases c19 : t120 = 2
                  · rw [if_pos c19] at H
                    have c19b0 : (t120 == 2) = true := beq_iff_eq.mpr c19
                    have c19b1 : (t120 != 2) = false := bne_eq_false_iff_eq.mpr c19
                    clear c19
                    have H' := Aside0.mk H
                    clear H
                    have p118 : 0 ≤ (x17_1 : Int) := of_decide_eq_true (by first | (with_reducible assumption) | assumption)
                    have q118 : x17_1 < (y115.length : Int) := of_decide_eq_true (by first | (with_reducible assumption) | assumption)
                    obtain ⟨ad118, e118, hx118_0⟩ := Kd.at_bool (Kd.R_reads' HO_15.out).2.2 x17_1 p118 q118
                    cases e118
                    replace p118 := eq_true p118
                    replace q118 := eq_true q118
                    go_wp2_with (first | ((with_reducible refine gate_callee (f := 30) rfl ?_); refine goesL_ (some 26) rfl rfl Try.func30 (by kernel_rfl) rfl #[.int .i64 a0, .bool (rdOf false y115 x17_1), .int .u64 a1, .int .u64 a2] rfl (by (try simp only [List.map_toArray, List.map_cons, List.map_nil]); first | done | rfl | (simp only [List.length_drop, List.length_take]; rfl)) ?_; (with_reducible refine (alu_Do.calls a0 (rdOf false y115 x17_1) a1 a2 t119 t120 _ A12.out).mono ?_); rintro e w' ⟨rfl, ⟨nd, rfl⟩⟩; refine ⟨_, rfl, ?_⟩) | ((with_reducible refine gate_callee (f := 32) rfl ?_); refine goesL_ (some 32) rfl rfl Try.func32 (by kernel_rfl) rfl #[.bool (rdOf false y115 x17_1)] rfl (by (try simp only [List.map_toArray, List.map_cons, List.map_nil]); first | done | rfl | (simp only [List.length_drop, List.length_take]; rfl)) ?_; (with_reducible refine (posternlaw05_bits.calls (rdOf false y115 x17_1) t121 _ A13.out).mono ?_); rintro e w' ⟨rfl, ⟨nd, rfl⟩⟩; refine ⟨_, rfl, ?_⟩) | ((with_reducible refine gate_callee (f := 31) rfl ?_); refine goesL_ (some 35) rfl rfl Try.func31 (by kernel_rfl) rfl #[.int .i64 a0, .int .i64 t121, .int .u64 a1, .int .u64 a2] rfl (by (try simp only [List.map_toArray, List.map_cons, List.map_nil]); first | done | rfl | (simp only [List.length_drop, List.length_take]; rfl)) ?_; (with_reducible refine (posternref05_Do.calls k1 a0 t121 a1 a2 t122 false _ A14.out).mono ?_); rintro e w' ⟨rfl, ⟨nd, rfl⟩⟩; refine ⟨_, rfl, ?_⟩))
                    go_roundg k1
                    case measure => have := HK1.out; omega
                    case rel => exact ⟨(wrap64 (x17_1 + 1)), (by first | rfl | (simp; done) | (simp [*]; done)), H', ⟨by have := HK1.out; omega⟩, ⟨by (with_reducible repeat (first | apply Kd.R_alloc | apply Kd.R_drewN | apply Kd.R_drew)); exact HO_15.out⟩, ⟨by repeat (first | (with_reducible first | exact HB.out | apply below_alloc | apply pw_below_drewN | apply below_drew1) | exact HB.out)⟩⟩
                  · rw [if_neg c19] at H
                    have c19b0 : (t120 == 2) = false := beq_eq_false_iff_ne.mpr c19
                    have c19b1 : (t120 != 2) = true := bne_iff_ne.mpr c19
                    obtain rfl := Option.some.inj H
                    have p118 : 0 ≤ (x17_1 : Int) := of_decide_eq_true (by first | (with_reducible assumption) | assumption)
                    have q118 : x17_1 < (y115.length : Int) := of_decide_eq_true (by first | (with_reducible assumption) | assumption)
                    obtain ⟨ad118, e118, hx118_0⟩ := Kd.at_bool (Kd.R_reads' HO_15.out).2.2 x17_1 p118 q118
                    cases e118
                    replace p118 := eq_true p118
                    replace q118 := eq_true q118
                    go_wp2_with (first | ((with_reducible refine gate_callee (f := 30) rfl ?_); refine goesL_ (some 26) rfl rfl Try.func30 (by kernel_rfl) rfl #[.int .i64 a0, .bool (rdOf false y115 x17_1), .int .u64 a1, .int .u64 a2] rfl (by (try simp only [List.map_toArray, List.map_cons, List.map_nil]); first | done | rfl | (simp only [List.length_drop, List.length_take]; rfl)) ?_; (with_reducible refine (alu_Do.calls a0 (rdOf false y115 x17_1) a1 a2 t119 t120 _ A12.out).mono ?_); rintro e w' ⟨rfl, ⟨nd, rfl⟩⟩; refine ⟨_, rfl, ?_⟩) | ((with_reducible refine gate_callee (f := 32) rfl ?_); refine goesL_ (some 32) rfl rfl Try.func32 (by kernel_rfl) rfl #[.bool (rdOf false y115 x17_1)] rfl (by (try simp only [List.map_toArray, List.map_cons, List.map_nil]); first | done | rfl | (simp only [List.length_drop, List.length_take]; rfl)) ?_; (with_reducible refine (posternlaw05_bits.calls (rdOf false y115 x17_1) t121 _ A13.out).mono ?_); rintro e w' ⟨rfl, ⟨nd, rfl⟩⟩; refine ⟨_, rfl, ?_⟩) | ((with_reducible refine gate_callee (f := 31) rfl ?_); refine goesL_ (some 35) rfl rfl Try.func31 (by kernel_rfl) rfl #[.int .i64 a0, .int .i64 t121, .int .u64 a1, .int .u64 a2] rfl (by (try simp only [List.map_toArray, List.map_cons, List.map_nil]); first | done | rfl | (simp only [List.length_drop, List.length_take]; rfl)) ?_; (with_reducible refine (posternref05_Do.calls k1 a0 t121 a1 a2 t122 false _ A14.out).mono ?_); rintro e w' ⟨rfl, ⟨nd, rfl⟩⟩; refine ⟨_, rfl, ?_⟩))
                    go_ret
                    exact ⟨by first | rfl | (simp [errW_none, errW_some] <;> rfl) | (simp [*, errW_none, errW_some] <;> rfl), by repeat (first | (with_reducible first | exact HB.out | apply below_alloc | apply pw_below_drewN | apply below_drew1) | exact HB.out)⟩
                · rw [if_neg c18] at H
                  have c18b0 : (t119 == 0) = false := beq_eq_false_iff_ne.mpr c18
                  have c18b1 : (t119 != 0) = true := bne_iff_ne.mpr c18
                  obtain rfl := Option.some.inj H
                  have p118 : 0 ≤ (x17_1 : Int) := of_decide_eq_true (by first | (with_reducible assumption) | assumption)
                  have q118 : x17_1 < (y115.length : Int) := of_decide_eq_true (by first | (with_reducible assumption) | assumption)
                  obtain ⟨ad118, e118, hx118_0⟩ := Kd.at_bool (Kd.R_reads' HO_15.out).2.2 x17_1 p118 q118
                  cases e118
                  replace p118 := eq_true p118
                  replace q118 := eq_true q118
                  go_wp2_with (first | ((with_reducible refine gate_callee (f := 30) rfl ?_); refine goesL_ (some 26) rfl rfl Try.func30 (by kernel_rfl) rfl #[.int .i64 a0, .bool (rdOf false y115 x17_1), .int .u64 a1, .int .u64 a2] rfl (by (try simp only [List.map_toArray, List.map_cons, List.map_nil]); first | done | rfl | (simp only [List.length_drop, List.length_take]; rfl)) ?_; (with_reducible refine (alu_Do.calls a0 (rdOf false y115 x17_1) a1 a2 t119 t120 _ A12.out).mono ?_); rintro e w' ⟨rfl, ⟨nd, rfl⟩⟩; refine ⟨_, rfl, ?_⟩) | ((with_reducible refine gate_callee (f := 32) rfl ?_); refine goesL_ (some 32) rfl rfl Try.func32 (by kernel_rfl) rfl #[.bool (rdOf false y115 x17_1)] rfl (by (try simp only [List.map_toArray, List.map_cons, List.map_nil]); first | done | rfl | (simp only [List.length_drop, List.length_take]; rfl)) ?_; (with_reducible refine (posternlaw05_bits.calls (rdOf false y115 x17_1) t121 _ A13.out).mono ?_); rintro e w' ⟨rfl, ⟨nd, rfl⟩⟩; refine ⟨_, rfl, ?_⟩) | ((with_reducible refine gate_callee (f := 31) rfl ?_); refine goesL_ (some 35) rfl rfl Try.func31 (by kernel_rfl) rfl #[.int .i64 a0, .int .i64 t121, .int .u64 a1, .int .u64 a2] rfl (by (try simp only [List.map_toArray, List.map_cons, List.map_nil]); first | done | rfl | (simp only [List.length_drop, List.length_take]; rfl)) ?_; (with_reducible refine (posternref05_Do.calls k1 a0 t121 a1 a2 t122 false _ A14.out).mono ?_); rintro e w' ⟨rfl, ⟨nd, rfl⟩⟩; refine ⟨_, rfl, ?_⟩))
                  go_ret
                  exact ⟨by first | rfl | (simp [errW_none, errW_some] <;> rfl) | (simp [*, errW_none, errW_some] <;> rfl), by repeat (first | (with_reducible first | exact HB.out | apply below_alloc | apply pw_below_drewN | apply below_drew1) | exact HB.out)⟩
            · rw [if_neg c11] at H
              exact absurd H (by simp)
          · rw [if_neg c10] at H
            exact absurd H (by simp)
        · rw [if_neg c9] at H
          have c9b0 : decide (x17_1 < (y115.length : Int)) = false := decide_eq_false c9
          clear c9
          obtain rfl := Option.some.inj H
          go_wp2
          go_ret
          exact ⟨by first | rfl | (simp [errW_none, errW_some] <;> rfl) | (simp [*, errW_none, errW_some] <;> rfl), by repeat (first | (with_reducible first | exact HB.out | apply below_alloc | apply pw_below_drewN | apply below_drew1) | exact HB.out)⟩
  · replace c5 := Bool.eq_false_iff.mpr c5
    subst c5
    have H1 : (some false) = some r := by rw [if_neg (show ¬ (false = true) by decide)] at H; exact H
    clear H
    have H := H1
    clear H1
    obtain rfl := Option.some.inj H
    go_enter Try.func7, Try.ntmps7
    go_wp2_with (first | ((with_reducible refine gate_callee (f := 29) rfl ?_); refine goesL_ (some 13) rfl rfl Try.func29 (by kernel_rfl) rfl #[] rfl (by (try simp only [List.map_toArray, List.map_cons, List.map_nil]); first | done | rfl | (simp only [List.length_drop, List.length_take]; rfl)) ?_; (with_reducible refine (posternlaw05_first.calls k  false _ A4.out).mono ?_); rintro e w' ⟨rfl, ⟨nd, rfl⟩⟩; refine ⟨_, rfl, ?_⟩))
    go_ret
    exact ⟨by first | rfl | (simp [errW_none, errW_some] <;> rfl) | (simp [*, errW_none, errW_some] <;> rfl), by repeat (first | (with_reducible first | exact HB.out | apply below_alloc | apply pw_below_drewN | apply below_drew1) | exact HB.out)⟩

/-- THE ONE PURE STATEMENT of posternlaw05_AluDo: yours. -/
def posternlaw05_AluDo.Pure : Prop := ∀ (a0 : Int) (a1 : Int) (a2 : Int), (Lit.int .i64 a0).wf = true → (Lit.int .u64 a1).wf = true → (Lit.int .u64 a2).wf = true → ∃ k, posternlaw05_AluDo.f k a0 a1 a2 = some true
theorem posternlaw05_AluDo.walk (P : posternlaw05_AluDo.Pure) (a0 : Int) (a1 : Int) (a2 : Int) (w : World) (w0 : (Lit.int .i64 a0).wf = true) (w1 : (Lit.int .u64 a1).wf = true) (w2 : (Lit.int .u64 a2).wf = true) :
    Calls Try.prog 7 #[.int .i64 a0, .int .u64 a1, .int .u64 a2] w fun e w' => e = .returned (.bool true) ∧ Below w.heap.size w w' := by
  obtain ⟨k, h⟩ := P a0 a1 a2 w0 w1 w2
  refine (posternlaw05_AluDo.calls k a0 a1 a2 true w h).mono ?_
  rintro e w' ⟨rfl, hd⟩
  exact ⟨rfl, hd⟩

end Go.Proofs.Ytpkgegklpbholaa.PAluDo
