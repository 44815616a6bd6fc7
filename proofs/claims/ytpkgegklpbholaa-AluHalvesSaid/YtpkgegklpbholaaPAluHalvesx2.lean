-- PRINTED BY print.sh 35421559b90ae4d0a3588c463048766b98c2df88dd9212a6774a882060cdf62d: not written by this session
import Derived.Test.YtpkgegklpbholaaPAluHalvesx0
import Derived.Test.YtpkgegklpbholaaPAluHalvesx1
namespace Go.Proofs.Ytpkgegklpbholaa.PAluHalves
open Go.RowKit Go.Proofs.YtpkgegklpbholaaW.PrintWords Go.Proofs.YtpkgegklpbholaaW.PrintLast Go.Proofs.YtpkgegklpbholaaW.PrintMore
attribute [local go_sem] max2_int min2_int max_two min_two max_three min_three max_four min_four   -- for this text's walks alone
set_option linter.unusedVariables false
set_option linter.unusedSimpArgs false

/-! ### posternlaw05_AluHalves: function 10 -/
mutual
def posternlaw05_AluHalves.l0 : Nat → Int → Int → Int → List Int → Int → Int → Option (Bool)
  | 0, _, _, _, _, _, _ => none
  | k + 1, x0, x1, x2, x20, x21, x22 => if x22 < x21 then (if 0 ≤ x22 then (if x22 < (x20.length : Int) then ((alu_Do.f (rd x20 x22) true x0 x1).bind fun bt114 => ((alu_Do.f (rd x20 x22) false x0 x1).bind fun bt116 => (if bt116.1 = (Go.bits .and .u64 bt114.1 4294967295) then (posternlaw05_AluHalves.l0 k x0 x1 x2 x20 x21 (wrap64 (x22 + 1))) else (some false)))) else (none)) else (none)) else (posternlaw05_AluHalves.l1 k x0 x1 x2 0)
def posternlaw05_AluHalves.l1 : Nat → Int → Int → Int → Int → Option (Bool)
  | 0, _, _, _, _ => none
  | k + 1, x0, x1, x2, x13 => if x13 ≤ 192 then ((alu_Do.f x13 false x0 x1).bind fun bt118 => ((alu_Do.f x13 false (Go.bits .or .u64 (Go.bits .and .u64 x0 4294967295) (IntKind.u64.wrap ((IntKind.u64.wrap (x2)) * 4294967296))) (Go.bits .or .u64 (Go.bits .and .u64 x1 4294967295) (IntKind.u64.wrap ((IntKind.u64.wrap (x2)) * 4294967296)))).bind fun bt120 => (if bt118.1 = bt120.1 then (if bt118.2 = 0 then (if bt120.2 = 0 then (posternlaw05_AluHalves.l1 k x0 x1 x2 (wrap64 (x13 + 16))) else (some false)) else (some false)) else (some false)))) else (some true)
end
def posternlaw05_AluHalves.f (k : Nat) (a0 : Int) (a1 : Int) (a2 : Int) : Option (Bool) := (posternlaw05_first.f k).bind fun t109 => (if t109 = true then ((some (([0, 16, 32, 64, 80, 128, 160, 176] : List Int) : List Int)).bind fun y110 => (posternlaw05_AluHalves.l0 k a0 a1 a2 y110 (y110.length : Int) 0)) else (some false))
theorem posternlaw05_AluHalves.mono_l : ∀ k, (∀ y0 y1 y2 y3 y4 y5, LeO (posternlaw05_AluHalves.l0 k y0 y1 y2 y3 y4 y5) (posternlaw05_AluHalves.l0 (k + 1) y0 y1 y2 y3 y4 y5)) ∧ (∀ y0 y1 y2 y3, LeO (posternlaw05_AluHalves.l1 k y0 y1 y2 y3) (posternlaw05_AluHalves.l1 (k + 1) y0 y1 y2 y3))
  | 0 => ⟨fun _ _ _ _ _ _ r h => by simp [posternlaw05_AluHalves.l0] at h, fun _ _ _ _ r h => by simp [posternlaw05_AluHalves.l1] at h⟩
  | k + 1 => by
    obtain ⟨ih0, ih1⟩ := posternlaw05_AluHalves.mono_l k
    refine ⟨?_, ?_⟩
    · intro y0 y1 y2 y3 y4 y5
      unfold posternlaw05_AluHalves.l0
      repeat' first
      | (with_reducible exact ih0 _ _ _ _ _ _)
      | (with_reducible exact ih1 _ _ _ _)
      | (with_reducible exact posternlaw05_first.mono _)
      | (with_reducible exact LeO.refl _)
      | (with_reducible exact LeO.none _)
      | (with_reducible refine LeO.ite ?_ ?_)
      | (with_reducible refine LeO.bind ?_ (fun _ => ?_))
      | exact ih0 _ _ _ _ _ _
      | exact ih1 _ _ _ _
      | exact posternlaw05_first.mono _
      | exact LeO.none _
      | refine LeO.ite ?_ ?_
      | refine LeO.bind ?_ (fun _ => ?_)
    · intro y0 y1 y2 y3
      unfold posternlaw05_AluHalves.l1
      repeat' first
      | (with_reducible exact ih0 _ _ _ _ _ _)
      | (with_reducible exact ih1 _ _ _ _)
      | (with_reducible exact posternlaw05_first.mono _)
      | (with_reducible exact LeO.refl _)
      | (with_reducible exact LeO.none _)
      | (with_reducible refine LeO.ite ?_ ?_)
      | (with_reducible refine LeO.bind ?_ (fun _ => ?_))
      | exact ih0 _ _ _ _ _ _
      | exact ih1 _ _ _ _
      | exact posternlaw05_first.mono _
      | exact LeO.none _
      | refine LeO.ite ?_ ?_
      | refine LeO.bind ?_ (fun _ => ?_)
theorem posternlaw05_AluHalves.mono : ∀ a0 a1 a2 k, LeO (posternlaw05_AluHalves.f k a0 a1 a2) (posternlaw05_AluHalves.f (k + 1) a0 a1 a2) := by
  intro a0 a1 a2 k
  obtain ⟨ih0, ih1⟩ := posternlaw05_AluHalves.mono_l k
  unfold posternlaw05_AluHalves.f
  repeat' first
      | (with_reducible exact ih0 _ _ _ _ _ _)
      | (with_reducible exact ih1 _ _ _ _)
      | (with_reducible exact posternlaw05_first.mono _)
      | (with_reducible exact LeO.refl _)
      | (with_reducible exact LeO.none _)
      | (with_reducible refine LeO.ite ?_ ?_)
      | (with_reducible refine LeO.bind ?_ (fun _ => ?_))
      | exact ih0 _ _ _ _ _ _
      | exact ih1 _ _ _ _
      | exact posternlaw05_first.mono _
      | exact LeO.none _
      | refine LeO.ite ?_ ?_
      | refine LeO.bind ?_ (fun _ => ?_)
set_option maxHeartbeats 8000000 in
set_option maxRecDepth 100000 in
theorem posternlaw05_AluHalves.calls (k : Nat) (a0 : Int) (a1 : Int) (a2 : Int) (r : Bool) (w : World) (h : posternlaw05_AluHalves.f k a0 a1 a2 = some r) :
    Calls Try.prog 10 #[.int .u64 a0, .int .u64 a1, .int .u32 a2] w fun e w' => e = .returned (.bool r) ∧ Below w.heap.size w w' := by
  have HB := Aside0.mk (Below.refl w.heap.size w)
  have H : ((posternlaw05_first.f k).bind fun t109 => (if t109 = true then ((some (([0, 16, 32, 64, 80, 128, 160, 176] : List Int) : List Int)).bind fun y110 => (posternlaw05_AluHalves.l0 k a0 a1 a2 y110 (y110.length : Int) 0)) else (some false))) = some r := h
  clear h
  replace H := Option.bind_eq_some_iff.mp H
  obtain ⟨t109, A40, H⟩ := H
  replace H : (if t109 = true then ((some (([0, 16, 32, 64, 80, 128, 160, 176] : List Int) : List Int)).bind fun y110 => (posternlaw05_AluHalves.l0 k a0 a1 a2 y110 (y110.length : Int) 0)) else (some false)) = some r := H
  have A4 := Aside0.mk A40
  clear A40
  by_cases c5 : t109 = true
  · subst c5
    have H1 : ((some (([0, 16, 32, 64, 80, 128, 160, 176] : List Int) : List Int)).bind fun y110 => (posternlaw05_AluHalves.l0 k a0 a1 a2 y110 (y110.length : Int) 0)) = some r := by rw [if_pos rfl] at H; exact H
    clear H
    have H := H1
    clear H1
    obtain ⟨y110, hy110⟩ : ∃ y_ : List Int, y_ = (([0, 16, 32, 64, 80, 128, 160, 176] : List Int)) := ⟨_, rfl⟩
    replace H : (posternlaw05_AluHalves.l0 k a0 a1 a2 y110 (y110.length : Int) 0) = some r := by first | (rw [hy110]; with_reducible exact H) | (have H2_ := (Option.bind_some _ _).symm.trans H; rw [hy110]; with_reducible exact H2_) | (have H2_ := (Option.bind_some _ _).symm.trans H; with_reducible exact H2_) | with_reducible exact H | (rw [hy110]; exact H) | exact H
    have Ny110 := Aside0.mk hy110
    clear hy110
    have H' := Aside0.mk H
    clear H
    go_enter Try.func10, Try.ntmps10
    go_wp2_with (first | ((with_reducible refine gate_callee (f := 29) rfl ?_); refine goesL_ (some 18) rfl rfl Try.func29 (by kernel_rfl) rfl #[] rfl (by (try simp only [List.map_toArray, List.map_cons, List.map_nil]); first | done | rfl | (simp only [List.length_drop, List.length_take]; rfl)) ?_; (with_reducible refine (posternlaw05_first.calls k  true _ A4.out).mono ?_); rintro e w' ⟨rfl, ⟨nd, rfl⟩⟩; refine ⟨_, rfl, ?_⟩) | ((with_reducible refine gate_dst (N := 20) rfl ?_); refine Kd.R_lit (Kd.int .i64) _ 3 ?hg (N := 20) ?hd (xs := ([0, 16, 32, 64, 80, 128, 160, 176] : List Int)) (inner := [.int .i64 0, .int .i64 16, .int .i64 32, .int .i64 64, .int .i64 80, .int .i64 128, .int .i64 160, .int .i64 176]) (ok := fun _ => True) (okp := fun _ => True) ?hr ?hp (fun _ hk => hk) trivial (Below.refl _ _) (Nat.le_refl _) (by simp) ?_; (case hd => rfl); (case hg => rfl); (case hr => first | (go_simp; done) | (go_simp; rfl)); (case hp => exact (Reps.one (show Kd.M (Kd.int .i64) _ _ _ 0 [.int .i64 0] from rfl) (Reps.one (show Kd.M (Kd.int .i64) _ _ _ 16 [.int .i64 16] from rfl) (Reps.one (show Kd.M (Kd.int .i64) _ _ _ 32 [.int .i64 32] from rfl) (Reps.one (show Kd.M (Kd.int .i64) _ _ _ 64 [.int .i64 64] from rfl) (Reps.one (show Kd.M (Kd.int .i64) _ _ _ 80 [.int .i64 80] from rfl) (Reps.one (show Kd.M (Kd.int .i64) _ _ _ 128 [.int .i64 128] from rfl) (Reps.one (show Kd.M (Kd.int .i64) _ _ _ 160 [.int .i64 160] from rfl) (Reps.one (show Kd.M (Kd.int .i64) _ _ _ 176 [.int .i64 176] from rfl) (Reps.none _ _)))))))))); intro v111 w6 ho7 hb hg_ hnew_; clear hg_ hnew_; (first | rw [← Ny110.out] at ho7 | (simp only [Int.reduceToNat] at ho7; rw [← Ny110.out] at ho7)); have n0_ := Aside0.mk (Kd.R_lower ho7 (below_size (by repeat (first | (with_reducible first | exact HB.out | apply below_alloc | apply pw_below_drewN | apply below_drew1) | exact HB.out)))); have n1_ := Aside0.mk (below_step (by repeat (first | (with_reducible first | exact HB.out | apply below_alloc | apply pw_below_drewN | apply below_drew1) | exact HB.out)) hb); clear HB; have HO112 := n0_; have HB := n1_; clear n0_ n1_; clear hb ho7; obtain ⟨Ao8, co8, eo8⟩ := Kd.R_slice HO112.out; subst eo8))
    go_loopg [22] k (fun kq v22 w' => ∃ (x22_1 : Int), v22 = .int .i64 x22_1 ∧ Aside0 (posternlaw05_AluHalves.l0 kq a0 a1 a2 y110 (y110.length : Int) x22_1 = some r) ∧ Aside0 (kq ≤ k) ∧ Aside0 (Kd.R (Kd.int .i64) 3 w' w.heap.size (fun _ => True) (.slice Ao8 y110.length co8) y110) ∧ Aside0 (Below w.heap.size w w'))
    case atStart => exact ⟨(0), (by first | rfl | (simp; done) | (simp [*]; done)), H', ⟨Nat.le_refl _⟩, ⟨by (with_reducible repeat (first | apply Kd.R_alloc | apply Kd.R_drewN | apply Kd.R_drew)); exact HO112.out⟩, ⟨by repeat (first | (with_reducible first | exact HB.out | apply below_alloc | apply pw_below_drewN | apply below_drew1) | exact HB.out)⟩⟩
    case round =>
      clear H'
      try clear c1
      try clear c2
      try clear p2
      try clear c5
      obtain ⟨x22_1, rfl, HA, HK1, HO_20, HB⟩ := hrel
      cases gk with
      | zero => exact absurd HA.out (by simp [posternlaw05_AluHalves.l0])
      | succ k1 =>
        have H := HA.out
        clear HA
        simp only [posternlaw05_AluHalves.l0] at H
        by_cases c9 : x22_1 < (y110.length : Int)
        · rw [if_pos c9] at H
          have c9b0 : decide (x22_1 < (y110.length : Int)) = true := decide_eq_true c9
          clear c9
          by_cases c10 : 0 ≤ x22_1
          · rw [if_pos c10] at H
            have c10b0 : decide (0 ≤ x22_1) = true := decide_eq_true c10
            clear c10
            by_cases c11 : x22_1 < (y110.length : Int)
            · rw [if_pos c11] at H
              have c11b0 : decide (x22_1 < (y110.length : Int)) = true := decide_eq_true c11
              clear c11
              replace H := Option.bind_eq_some_iff.mp H
              obtain ⟨⟨t114, t115⟩, A120, H⟩ := H
              replace H : ((alu_Do.f (rd y110 x22_1) false a0 a1).bind fun bt116 => (if bt116.1 = (Go.bits .and .u64 t114 4294967295) then (posternlaw05_AluHalves.l0 k1 a0 a1 a2 y110 (y110.length : Int) (wrap64 (x22_1 + 1))) else (some false))) = some r := H
              have A12 := Aside0.mk A120
              clear A120
              replace H := Option.bind_eq_some_iff.mp H
              obtain ⟨⟨t116, t117⟩, A130, H⟩ := H
              replace H : (if t116 = (Go.bits .and .u64 t114 4294967295) then (posternlaw05_AluHalves.l0 k1 a0 a1 a2 y110 (y110.length : Int) (wrap64 (x22_1 + 1))) else (some false)) = some r := H
              have A13 := Aside0.mk A130
              clear A130
              by_cases c14 : t116 = (Go.bits .and .u64 t114 4294967295)
              · rw [if_pos c14] at H
                have c14b0 : (t116 == (Go.bits .and .u64 t114 4294967295)) = true := beq_iff_eq.mpr c14
                have c14b1 : (t116 != (Go.bits .and .u64 t114 4294967295)) = false := bne_eq_false_iff_eq.mpr c14
                clear c14
                have H' := Aside0.mk H
                clear H
                have p113 : 0 ≤ (x22_1 : Int) := of_decide_eq_true (by first | (with_reducible assumption) | assumption)
                have q113 : x22_1 < (y110.length : Int) := of_decide_eq_true (by first | (with_reducible assumption) | assumption)
                obtain ⟨ad113, e113, hx113_0⟩ := Kd.at_int (Kd.R_reads' HO_20.out).2.2 x22_1 p113 q113
                cases e113
                replace p113 := eq_true p113
                replace q113 := eq_true q113
                go_wp2_with (first | ((with_reducible refine gate_callee (f := 30) rfl ?_); refine goesL_ (some 30) rfl rfl Try.func30 (by kernel_rfl) rfl #[.int .i64 (rd y110 x22_1), .bool true, .int .u64 a0, .int .u64 a1] rfl (by (try simp only [List.map_toArray, List.map_cons, List.map_nil]); first | done | rfl | (simp only [List.length_drop, List.length_take]; rfl)) ?_; (with_reducible refine (alu_Do.calls (rd y110 x22_1) true a0 a1 t114 t115 _ A12.out).mono ?_); rintro e w' ⟨rfl, ⟨nd, rfl⟩⟩; refine ⟨_, rfl, ?_⟩) | ((with_reducible refine gate_callee (f := 30) rfl ?_); refine goesL_ (some 37) rfl rfl Try.func30 (by kernel_rfl) rfl #[.int .i64 (rd y110 x22_1), .bool false, .int .u64 a0, .int .u64 a1] rfl (by (try simp only [List.map_toArray, List.map_cons, List.map_nil]); first | done | rfl | (simp only [List.length_drop, List.length_take]; rfl)) ?_; (with_reducible refine (alu_Do.calls (rd y110 x22_1) false a0 a1 t116 t117 _ A13.out).mono ?_); rintro e w' ⟨rfl, ⟨nd, rfl⟩⟩; refine ⟨_, rfl, ?_⟩))
                go_roundg k1
                case measure => have := HK1.out; omega
                case rel => exact ⟨(wrap64 (x22_1 + 1)), (by first | rfl | (simp; done) | (simp [*]; done)), H', ⟨by have := HK1.out; omega⟩, ⟨by (with_reducible repeat (first | apply Kd.R_alloc | apply Kd.R_drewN | apply Kd.R_drew)); exact HO_20.out⟩, ⟨by repeat (first | (with_reducible first | exact HB.out | apply below_alloc | apply pw_below_drewN | apply below_drew1) | exact HB.out)⟩⟩
              · rw [if_neg c14] at H
                have c14b0 : (t116 == (Go.bits .and .u64 t114 4294967295)) = false := beq_eq_false_iff_ne.mpr c14
                have c14b1 : (t116 != (Go.bits .and .u64 t114 4294967295)) = true := bne_iff_ne.mpr c14
                obtain rfl := Option.some.inj H
                have p113 : 0 ≤ (x22_1 : Int) := of_decide_eq_true (by first | (with_reducible assumption) | assumption)
                have q113 : x22_1 < (y110.length : Int) := of_decide_eq_true (by first | (with_reducible assumption) | assumption)
                obtain ⟨ad113, e113, hx113_0⟩ := Kd.at_int (Kd.R_reads' HO_20.out).2.2 x22_1 p113 q113
                cases e113
                replace p113 := eq_true p113
                replace q113 := eq_true q113
                go_wp2_with (first | ((with_reducible refine gate_callee (f := 30) rfl ?_); refine goesL_ (some 30) rfl rfl Try.func30 (by kernel_rfl) rfl #[.int .i64 (rd y110 x22_1), .bool true, .int .u64 a0, .int .u64 a1] rfl (by (try simp only [List.map_toArray, List.map_cons, List.map_nil]); first | done | rfl | (simp only [List.length_drop, List.length_take]; rfl)) ?_; (with_reducible refine (alu_Do.calls (rd y110 x22_1) true a0 a1 t114 t115 _ A12.out).mono ?_); rintro e w' ⟨rfl, ⟨nd, rfl⟩⟩; refine ⟨_, rfl, ?_⟩) | ((with_reducible refine gate_callee (f := 30) rfl ?_); refine goesL_ (some 37) rfl rfl Try.func30 (by kernel_rfl) rfl #[.int .i64 (rd y110 x22_1), .bool false, .int .u64 a0, .int .u64 a1] rfl (by (try simp only [List.map_toArray, List.map_cons, List.map_nil]); first | done | rfl | (simp only [List.length_drop, List.length_take]; rfl)) ?_; (with_reducible refine (alu_Do.calls (rd y110 x22_1) false a0 a1 t116 t117 _ A13.out).mono ?_); rintro e w' ⟨rfl, ⟨nd, rfl⟩⟩; refine ⟨_, rfl, ?_⟩))
                go_ret
                exact ⟨by first | rfl | (simp [errW_none, errW_some] <;> rfl) | (simp [*, errW_none, errW_some] <;> rfl), by repeat (first | (with_reducible first | exact HB.out | apply below_alloc | apply pw_below_drewN | apply below_drew1) | exact HB.out)⟩
            · rw [if_neg c11] at H
              exact absurd H (by simp)
          · rw [if_neg c10] at H
            exact absurd H (by simp)
        · rw [if_neg c9] at H
          have c9b0 : decide (x22_1 < (y110.length : Int)) = false := decide_eq_false c9
          clear c9
          have H' := Aside0.mk H
          clear H
          go_wp2
          go_loopg [13] k1 (fun kq v13 w' => ∃ (x13_2 : Int), v13 = .int .i64 x13_2 ∧ Aside0 (posternlaw05_AluHalves.l1 kq a0 a1 a2 x13_2 = some r) ∧ Aside0 (kq ≤ k1) ∧ Aside0 (Below w.heap.size w w'))
          case atStart => exact ⟨(0), (by first | rfl | (simp; done) | (simp [*]; done)), H', ⟨Nat.le_refl _⟩, ⟨by repeat (first | (with_reducible first | exact HB.out | apply below_alloc | apply pw_below_drewN | apply below_drew1) | exact HB.out)⟩⟩
          case round =>
            clear H'
            try clear c1
            try clear p1
            try clear q1
            try clear hx1
            try clear c2
            try clear p2
            try clear c3
            try clear c5
            try clear p6
            try clear c9
            try clear c9b0
            try clear c10
            try clear c10b0
            try clear c11
            try clear c11b0
            try clear p11
            try clear q11
            try clear hx11
            try clear c14
            try clear c14b0
            try clear c14b1
            try clear hx113_0
            try clear p113
            try clear p2
            try clear q113
            obtain ⟨x13_2, rfl, HA, HK2, HB⟩ := hrel
            cases gk with
            | zero => exact absurd HA.out (by simp [posternlaw05_AluHalves.l1])
            | succ k2 =>
              have H := HA.out
              clear HA
              simp only [posternlaw05_AluHalves.l1] at H
              by_cases c15 : x13_2 ≤ 192
              · rw [if_pos c15] at H
                have c15b0 : decide (x13_2 ≤ 192) = true := decide_eq_true c15
                clear c15
                replace H := Option.bind_eq_some_iff.mp H
                obtain ⟨⟨t118, t119⟩, A160, H⟩ := H
                replace H : ((alu_Do.f x13_2 false (Go.bits .or .u64 (Go.bits .and .u64 a0 4294967295) (IntKind.u64.wrap ((IntKind.u64.wrap (a2)) * 4294967296))) (Go.bits .or .u64 (Go.bits .and .u64 a1 4294967295) (IntKind.u64.wrap ((IntKind.u64.wrap (a2)) * 4294967296)))).bind fun bt120 => (if t118 = bt120.1 then (if t119 = 0 then (if bt120.2 = 0 then (posternlaw05_AluHalves.l1 k2 a0 a1 a2 (wrap64 (x13_2 + 16))) else (some false)) else (some false)) else (some false))) = some r := H
                have A16 := Aside0.mk A160
                clear A160
                replace H := Option.bind_eq_some_iff.mp H
                obtain ⟨⟨t120, t121⟩, A170, H⟩ := H
                replace H : (if t118 = t120 then (if t119 = 0 then (if t121 = 0 then (posternlaw05_AluHalves.l1 k2 a0 a1 a2 (wrap64 (x13_2 + 16))) else (some false)) else (some false)) else (some false)) = some r := H
                have A17 := Aside0.mk A170
                clear A170
                by_cases c18 : t118 = t120
                · rw [if_pos c18] at H
                  have c18b0 : (t118 == t120) = true := beq_iff_eq.mpr c18
                  have c18b1 : (t118 != t120) = false := bne_eq_false_iff_eq.mpr c18
                  clear c18
                  by_cases c19 : t119 = 0
                  · rw [if_pos c19] at H
                    have c19b0 : (t119 == 0) = true := beq_iff_eq.mpr c19
                    have c19b1 : (t119 != 0) = false := bne_eq_false_iff_eq.mpr c19
                    clear c19
                    by_cases c20 : t121 = 0
                    · rw [if_pos c20] at H
                      have c20b0 : (t121 == 0) = true := beq_iff_eq.mpr c20
                      have c20b1 : (t121 != 0) = false := bne_eq_false_iff_eq.mpr c20
                      clear c20
                      have H' := Aside0.mk H
                      clear H
                      go_wp2_with (first | ((with_reducible refine gate_callee (f := 30) rfl ?_); refine goesL_ (some 53) rfl rfl Try.func30 (by kernel_rfl) rfl #[.int .i64 x13_2, .bool false, .int .u64 a0, .int .u64 a1] rfl (by (try simp only [List.map_toArray, List.map_cons, List.map_nil]); first | done | rfl | (simp only [List.length_drop, List.length_take]; rfl)) ?_; (with_reducible refine (alu_Do.calls x13_2 false a0 a1 t118 t119 _ A16.out).mono ?_); rintro e w' ⟨rfl, ⟨nd, rfl⟩⟩; refine ⟨_, rfl, ?_⟩) | ((with_reducible refine gate_callee (f := 30) rfl ?_); refine goesL_ (some 70) rfl rfl Try.func30 (by kernel_rfl) rfl #[.int .i64 x13_2, .bool false, .int .u64 (Go.bits .or .u64 (Go.bits .and .u64 a0 4294967295) (IntKind.u64.wrap ((IntKind.u64.wrap (a2)) * 4294967296))), .int .u64 (Go.bits .or .u64 (Go.bits .and .u64 a1 4294967295) (IntKind.u64.wrap ((IntKind.u64.wrap (a2)) * 4294967296)))] rfl (by (try simp only [List.map_toArray, List.map_cons, List.map_nil]); first | done | rfl | (simp only [List.length_drop, List.length_take]; rfl)) ?_; (with_reducible refine (alu_Do.calls x13_2 false (Go.bits .or .u64 (Go.bits .and .u64 a0 4294967295) (IntKind.u64.wrap ((IntKind.u64.wrap (a2)) * 4294967296))) (Go.bits .or .u64 (Go.bits .and .u64 a1 4294967295) (IntKind.u64.wrap ((IntKind.u64.wrap (a2)) * 4294967296))) t120 t121 _ A17.out).mono ?_); rintro e w' ⟨rfl, ⟨nd, rfl⟩⟩; refine ⟨_, rfl, ?_⟩))
                      go_roundg k2
                      case measure => have := HK1.out; have := HK2.out; omega
                      case rel => exact ⟨(wrap64 (x13_2 + 16)), (by first | rfl | (simp; done) | (simp [*]; done)), H', ⟨by have := HK1.out; have := HK2.out; omega⟩, ⟨by repeat (first | (with_reducible first | exact HB.out | apply below_alloc | apply pw_below_drewN | apply below_drew1) | exact HB.out)⟩⟩
                    · rw [if_neg c20] at H
                      have c20b0 : (t121 == 0) = false := beq_eq_false_iff_ne.mpr c20
                      have c20b1 : (t121 != 0) = true := bne_iff_ne.mpr c20
                      obtain rfl := Option.some.inj H
                      go_wp2_with (first | ((with_reducible refine gate_callee (f := 30) rfl ?_); refine goesL_ (some 53) rfl rfl Try.func30 (by kernel_rfl) rfl #[.int .i64 x13_2, .bool false, .int .u64 a0, .int .u64 a1] rfl (by (try simp only [List.map_toArray, List.map_cons, List.map_nil]); first | done | rfl | (simp only [List.length_drop, List.length_take]; rfl)) ?_; (with_reducible refine (alu_Do.calls x13_2 false a0 a1 t118 t119 _ A16.out).mono ?_); rintro e w' ⟨rfl, ⟨nd, rfl⟩⟩; refine ⟨_, rfl, ?_⟩) | ((with_reducible refine gate_callee (f := 30) rfl ?_); refine goesL_ (some 70) rfl rfl Try.func30 (by kernel_rfl) rfl #[.int .i64 x13_2, .bool false, .int .u64 (Go.bits .or .u64 (Go.bits .and .u64 a0 4294967295) (IntKind.u64.wrap ((IntKind.u64.wrap (a2)) * 4294967296))), .int .u64 (Go.bits .or .u64 (Go.bits .and .u64 a1 4294967295) (IntKind.u64.wrap ((IntKind.u64.wrap (a2)) * 4294967296)))] rfl (by (try simp only [List.map_toArray, List.map_cons, List.map_nil]); first | done | rfl | (simp only [List.length_drop, List.length_take]; rfl)) ?_; (with_reducible refine (alu_Do.calls x13_2 false (Go.bits .or .u64 (Go.bits .and .u64 a0 4294967295) (IntKind.u64.wrap ((IntKind.u64.wrap (a2)) * 4294967296))) (Go.bits .or .u64 (Go.bits .and .u64 a1 4294967295) (IntKind.u64.wrap ((IntKind.u64.wrap (a2)) * 4294967296))) t120 t121 _ A17.out).mono ?_); rintro e w' ⟨rfl, ⟨nd, rfl⟩⟩; refine ⟨_, rfl, ?_⟩))
                      go_ret
                      exact ⟨by first | rfl | (simp [errW_none, errW_some] <;> rfl) | (simp [*, errW_none, errW_some] <;> rfl), by repeat (first | (with_reducible first | exact HB.out | apply below_alloc | apply pw_below_drewN | apply below_drew1) | exact HB.out)⟩
                  · rw [if_neg c19] at H
                    have c19b0 : (t119 == 0) = false := beq_eq_false_iff_ne.mpr c19
                    have c19b1 : (t119 != 0) = true := bne_iff_ne.mpr c19
                    obtain rfl := Option.some.inj H
                    go_wp2_with (first | ((with_reducible refine gate_callee (f := 30) rfl ?_); refine goesL_ (some 53) rfl rfl Try.func30 (by kernel_rfl) rfl #[.int .i64 x13_2, .bool false, .int .u64 a0, .int .u64 a1] rfl (by (try simp only [List.map_toArray, List.map_cons, List.map_nil]); first | done | rfl | (simp only [List.length_drop, List.length_take]; rfl)) ?_; (with_reducible refine (alu_Do.calls x13_2 false a0 a1 t118 t119 _ A16.out).mono ?_); rintro e w' ⟨rfl, ⟨nd, rfl⟩⟩; refine ⟨_, rfl, ?_⟩) | ((with_reducible refine gate_callee (f := 30) rfl ?_); refine goesL_ (some 70) rfl rfl Try.func30 (by kernel_rfl) rfl #[.int .i64 x13_2, .bool false, .int .u64 (Go.bits .or .u64 (Go.bits .and .u64 a0 4294967295) (IntKind.u64.wrap ((IntKind.u64.wrap (a2)) * 4294967296))), .int .u64 (Go.bits .or .u64 (Go.bits .and .u64 a1 4294967295) (IntKind.u64.wrap ((IntKind.u64.wrap (a2)) * 4294967296)))] rfl (by (try simp only [List.map_toArray, List.map_cons, List.map_nil]); first | done | rfl | (simp only [List.length_drop, List.length_take]; rfl)) ?_; (with_reducible refine (alu_Do.calls x13_2 false (Go.bits .or .u64 (Go.bits .and .u64 a0 4294967295) (IntKind.u64.wrap ((IntKind.u64.wrap (a2)) * 4294967296))) (Go.bits .or .u64 (Go.bits .and .u64 a1 4294967295) (IntKind.u64.wrap ((IntKind.u64.wrap (a2)) * 4294967296))) t120 t121 _ A17.out).mono ?_); rintro e w' ⟨rfl, ⟨nd, rfl⟩⟩; refine ⟨_, rfl, ?_⟩))
                    go_ret
                    exact ⟨by first | rfl | (simp [errW_none, errW_some] <;> rfl) | (simp [*, errW_none, errW_some] <;> rfl), by repeat (first | (with_reducible first | exact HB.out | apply below_alloc | apply pw_below_drewN | apply below_drew1) | exact HB.out)⟩
                · rw [if_neg c18] at H
                  have c18b0 : (t118 == t120) = false := beq_eq_false_iff_ne.mpr c18
                  have c18b1 : (t118 != t120) = true := bne_iff_ne.mpr c18
                  obtain rfl := Option.some.inj H
                  go_wp2_with (first | ((with_reducible refine gate_callee (f := 30) rfl ?_); refine goesL_ (some 53) rfl rfl Try.func30 (by kernel_rfl) rfl #[.int .i64 x13_2, .bool false, .int .u64 a0, .int .u64 a1] rfl (by (try simp only [List.map_toArray, List.map_cons, List.map_nil]); first | done | rfl | (simp only [List.length_drop, List.length_take]; rfl)) ?_; (with_reducible refine (alu_Do.calls x13_2 false a0 a1 t118 t119 _ A16.out).mono ?_); rintro e w' ⟨rfl, ⟨nd, rfl⟩⟩; refine ⟨_, rfl, ?_⟩) | ((with_reducible refine gate_callee (f := 30) rfl ?_); refine goesL_ (some 70) rfl rfl Try.func30 (by kernel_rfl) rfl #[.int .i64 x13_2, .bool false, .int .u64 (Go.bits .or .u64 (Go.bits .and .u64 a0 4294967295) (IntKind.u64.wrap ((IntKind.u64.wrap (a2)) * 4294967296))), .int .u64 (Go.bits .or .u64 (Go.bits .and .u64 a1 4294967295) (IntKind.u64.wrap ((IntKind.u64.wrap (a2)) * 4294967296)))] rfl (by (try simp only [List.map_toArray, List.map_cons, List.map_nil]); first | done | rfl | (simp only [List.length_drop, List.length_take]; rfl)) ?_; (with_reducible refine (alu_Do.calls x13_2 false (Go.bits .or .u64 (Go.bits .and .u64 a0 4294967295) (IntKind.u64.wrap ((IntKind.u64.wrap (a2)) * 4294967296))) (Go.bits .or .u64 (Go.bits .and .u64 a1 4294967295) (IntKind.u64.wrap ((IntKind.u64.wrap (a2)) * 4294967296))) t120 t121 _ A17.out).mono ?_); rintro e w' ⟨rfl, ⟨nd, rfl⟩⟩; refine ⟨_, rfl, ?_⟩))
                  go_ret
                  exact ⟨by first | rfl | (simp [errW_none, errW_some] <;> rfl) | (simp [*, errW_none, errW_some] <;> rfl), by repeat (first | (with_reducible first | exact HB.out | apply below_alloc | apply pw_below_drewN | apply below_drew1) | exact HB.out)⟩
              · rw [if_neg c15] at H
                have c15b0 : decide (x13_2 ≤ 192) = false := decide_eq_false c15
                clear c15
                obtain rfl := Option.some.inj H
                go_wp2
                go_ret
                exact ⟨by first | rfl | (simp [errW_none, errW_some] <;> rfl) | (simp [*, errW_none, errW_some] <;> rfl), by repeat (first | (with_reducible first | exact HB.out | apply below_alloc | apply pw_below_drewN | apply below_drew1) | exact HB.out)⟩
  · replace c5 := Bool.eq_false_iff.mpr c5
    subst c5
    have H1 : (some false) = some r := by rw [if_neg (show ¬ (false = true) by decide)] at H; exact H
    clear H
    have H := H1
    clear H1
    obtain rfl := Option.some.inj H
    go_enter Try.func10, Try.ntmps10
    go_wp2_with (first | ((with_reducible refine gate_callee (f := 29) rfl ?_); refine goesL_ (some 18) rfl rfl Try.func29 (by kernel_rfl) rfl #[] rfl (by (try simp only [List.map_toArray, List.map_cons, List.map_nil]); first | done | rfl | (simp only [List.length_drop, List.length_take]; rfl)) ?_; (with_reducible refine (posternlaw05_first.calls k  false _ A4.out).mono ?_); rintro e w' ⟨rfl, ⟨nd, rfl⟩⟩; refine ⟨_, rfl, ?_⟩))
    go_ret
    exact ⟨by first | rfl | (simp [errW_none, errW_some] <;> rfl) | (simp [*, errW_none, errW_some] <;> rfl), by repeat (first | (with_reducible first | exact HB.out | apply below_alloc | apply pw_below_drewN | apply below_drew1) | exact HB.out)⟩

/-- THE ONE PURE STATEMENT of posternlaw05_AluHalves: yours. -/
def posternlaw05_AluHalves.Pure : Prop := ∀ (a0 : Int) (a1 : Int) (a2 : Int), (Lit.int .u64 a0).wf = true → (Lit.int .u64 a1).wf = true → (Lit.int .u32 a2).wf = true → ∃ k, posternlaw05_AluHalves.f k a0 a1 a2 = some true
theorem posternlaw05_AluHalves.walk (P : posternlaw05_AluHalves.Pure) (a0 : Int) (a1 : Int) (a2 : Int) (w : World) (w0 : (Lit.int .u64 a0).wf = true) (w1 : (Lit.int .u64 a1).wf = true) (w2 : (Lit.int .u32 a2).wf = true) :
    Calls Try.prog 10 #[.int .u64 a0, .int .u64 a1, .int .u32 a2] w fun e w' => e = .returned (.bool true) ∧ Below w.heap.size w w' := by
  obtain ⟨k, h⟩ := P a0 a1 a2 w0 w1 w2
  refine (posternlaw05_AluHalves.calls k a0 a1 a2 true w h).mono ?_
  rintro e w' ⟨rfl, hd⟩
  exact ⟨rfl, hd⟩

end Go.Proofs.Ytpkgegklpbholaa.PAluHalves
