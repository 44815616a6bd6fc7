-- Written by a program of this session (a variant of the print), for this claim. Lean checks it.
import Derived.Test.YtpkgegklpbholaaPAluLawsx0
import Derived.Test.YtpkgegklpbholaaPAluLawsx1
namespace Go.Proofs.Ytpkgegklpbholaa.PAluLaws
open Go.RowKit Go.Proofs.YtpkgegklpbholaaW.PrintWords Go.Proofs.YtpkgegklpbholaaW.PrintLast Go.Proofs.YtpkgegklpbholaaW.PrintMore
attribute [local go_sem] max2_int min2_int max_two min_two max_three min_three max_four min_four   -- for this text's walks alone
set_option linter.unusedVariables false
set_option linter.unusedSimpArgs false

/-! ### posternlaw05_AluLaws: function 9 -/
mutual
def posternlaw05_AluLaws.j0 : Nat → Int → Int → Bool → Int → Int → Int → Int → Option (Bool)
  | 0, _, _, _, _, _, _, _ => none
  | k + 1, x0, x1, x2, x9, x13, x21, x25 => if x9 = x0 then (if x13 = x0 then (if x21 = x0 then (posternlaw05_AluLaws.j1 k x0 x1 x2 (x25 != x0)) else (posternlaw05_AluLaws.j1 k x0 x1 x2 true)) else (posternlaw05_AluLaws.j1 k x0 x1 x2 true)) else (posternlaw05_AluLaws.j1 k x0 x1 x2 true)
def posternlaw05_AluLaws.j1 : Nat → Int → Int → Bool → Bool → Option (Bool)
  | 0, _, _, _, _ => none
  | k + 1, x0, x1, x2, x124 => if x124 = true then (some false) else ((some (([(⟨16, 80⟩ : S55), (⟨32, 176⟩ : S55), (⟨48, 160⟩ : S55), (⟨96, 208⟩ : S55), (⟨112, 192⟩ : S55)] : List (S55)) : List (S55))).bind fun y130 => (posternlaw05_AluLaws.l0 k x0 x1 x2 y130 (y130.length : Int) 0))
def posternlaw05_AluLaws.l0 : Nat → Int → Int → Bool → List (S55) → Int → Int → Option (Bool)
  | 0, _, _, _, _, _, _ => none
  | k + 1, x0, x1, x2, x130, x131, x132 => if x132 < x131 then (if 0 ≤ x132 then (if x132 < (x130.length : Int) then ((alu_Holds.f k ((rd_T55 x130 x132).f0) x2 x0 x1).bind fun bt135 => ((alu_Holds.f k ((rd_T55 x130 x132).f1) x2 x0 x1).bind fun bt137 => (if (bt135.1 == bt137.1) = true then (some false) else (posternlaw05_AluLaws.l0 k x0 x1 x2 x130 x131 (wrap64 (x132 + 1)))))) else (none)) else (none)) else (some true)
end
def posternlaw05_AluLaws.f (k : Nat) (a0 : Int) (a1 : Int) (a2 : Bool) : Option (Bool) := (posternlaw05_first.f k).bind fun t109 => (if t109 = true then ((alu_Do.f 0 a2 a0 a1).bind fun bt110 => ((alu_Do.f 16 a2 bt110.1 a1).bind fun bt112 => ((alu_Do.f 160 a2 a0 a1).bind fun bt114 => ((alu_Do.f 160 a2 bt114.1 a1).bind fun bt116 => ((alu_Do.f 48 a2 a0 a1).bind fun bt118 => ((alu_Do.f 32 a2 bt118.1 a1).bind fun bt120 => ((alu_Do.f 144 a2 a0 a1).bind fun bt122 => ((alu_Do.f 0 a2 bt120.1 bt122.1).bind fun bt124 => ((alu_Do.f 128 a2 a0 0).bind fun bt126 => ((alu_Do.f 128 a2 bt126.1 0).bind fun bt128 => (if a2 = true then (posternlaw05_AluLaws.j0 k a0 a1 a2 bt112.1 bt116.1 bt124.1 bt128.1) else (posternlaw05_AluLaws.j0 k (Go.bits .and .u64 a0 4294967295) a1 a2 bt112.1 bt116.1 bt124.1 bt128.1)))))))))))) else (some false))
theorem posternlaw05_AluLaws.mono_l : ∀ k, (∀ y0 y1 y2 y3 y4 y5 y6, LeO (posternlaw05_AluLaws.j0 k y0 y1 y2 y3 y4 y5 y6) (posternlaw05_AluLaws.j0 (k + 1) y0 y1 y2 y3 y4 y5 y6)) ∧ (∀ y0 y1 y2 y3, LeO (posternlaw05_AluLaws.j1 k y0 y1 y2 y3) (posternlaw05_AluLaws.j1 (k + 1) y0 y1 y2 y3)) ∧ (∀ y0 y1 y2 y3 y4 y5, LeO (posternlaw05_AluLaws.l0 k y0 y1 y2 y3 y4 y5) (posternlaw05_AluLaws.l0 (k + 1) y0 y1 y2 y3 y4 y5))
  | 0 => ⟨fun _ _ _ _ _ _ _ r h => by simp [posternlaw05_AluLaws.j0] at h, fun _ _ _ _ r h => by simp [posternlaw05_AluLaws.j1] at h, fun _ _ _ _ _ _ r h => by simp [posternlaw05_AluLaws.l0] at h⟩
  | k + 1 => by
    obtain ⟨ih0, ih1, ih2⟩ := posternlaw05_AluLaws.mono_l k
    refine ⟨?_, ?_, ?_⟩
    · intro y0 y1 y2 y3 y4 y5 y6
      unfold posternlaw05_AluLaws.j0
      repeat' first
      | (with_reducible exact ih0 _ _ _ _ _ _ _)
      | (with_reducible exact ih1 _ _ _ _)
      | (with_reducible exact ih2 _ _ _ _ _ _)
      | (with_reducible exact alu_Holds.mono _ _ _ _ _)
      | (with_reducible exact posternlaw05_first.mono _)
      | (with_reducible exact LeO.refl _)
      | (with_reducible exact LeO.none _)
      | (with_reducible refine LeO.ite ?_ ?_)
      | (with_reducible refine LeO.bind ?_ (fun _ => ?_))
      | exact ih0 _ _ _ _ _ _ _
      | exact ih1 _ _ _ _
      | exact ih2 _ _ _ _ _ _
      | exact alu_Holds.mono _ _ _ _ _
      | exact posternlaw05_first.mono _
      | exact LeO.none _
      | refine LeO.ite ?_ ?_
      | refine LeO.bind ?_ (fun _ => ?_)
    · intro y0 y1 y2 y3
      unfold posternlaw05_AluLaws.j1
      repeat' first
      | (with_reducible exact ih0 _ _ _ _ _ _ _)
      | (with_reducible exact ih1 _ _ _ _)
      | (with_reducible exact ih2 _ _ _ _ _ _)
      | (with_reducible exact alu_Holds.mono _ _ _ _ _)
      | (with_reducible exact posternlaw05_first.mono _)
      | (with_reducible exact LeO.refl _)
      | (with_reducible exact LeO.none _)
      | (with_reducible refine LeO.ite ?_ ?_)
      | (with_reducible refine LeO.bind ?_ (fun _ => ?_))
      | exact ih0 _ _ _ _ _ _ _
      | exact ih1 _ _ _ _
      | exact ih2 _ _ _ _ _ _
      | exact alu_Holds.mono _ _ _ _ _
      | exact posternlaw05_first.mono _
      | exact LeO.none _
      | refine LeO.ite ?_ ?_
      | refine LeO.bind ?_ (fun _ => ?_)
    · intro y0 y1 y2 y3 y4 y5
      unfold posternlaw05_AluLaws.l0
      repeat' first
      | (with_reducible exact ih0 _ _ _ _ _ _ _)
      | (with_reducible exact ih1 _ _ _ _)
      | (with_reducible exact ih2 _ _ _ _ _ _)
      | (with_reducible exact alu_Holds.mono _ _ _ _ _)
      | (with_reducible exact posternlaw05_first.mono _)
      | (with_reducible exact LeO.refl _)
      | (with_reducible exact LeO.none _)
      | (with_reducible refine LeO.ite ?_ ?_)
      | (with_reducible refine LeO.bind ?_ (fun _ => ?_))
      | exact ih0 _ _ _ _ _ _ _
      | exact ih1 _ _ _ _
      | exact ih2 _ _ _ _ _ _
      | exact alu_Holds.mono _ _ _ _ _
      | exact posternlaw05_first.mono _
      | exact LeO.none _
      | refine LeO.ite ?_ ?_
      | refine LeO.bind ?_ (fun _ => ?_)
theorem posternlaw05_AluLaws.mono : ∀ a0 a1 a2 k, LeO (posternlaw05_AluLaws.f k a0 a1 a2) (posternlaw05_AluLaws.f (k + 1) a0 a1 a2) := by
  intro a0 a1 a2 k
  obtain ⟨ih0, ih1, ih2⟩ := posternlaw05_AluLaws.mono_l k
  unfold posternlaw05_AluLaws.f
  repeat' first
      | (with_reducible exact ih0 _ _ _ _ _ _ _)
      | (with_reducible exact ih1 _ _ _ _)
      | (with_reducible exact ih2 _ _ _ _ _ _)
      | (with_reducible exact alu_Holds.mono _ _ _ _ _)
      | (with_reducible exact posternlaw05_first.mono _)
      | (with_reducible exact LeO.refl _)
      | (with_reducible exact LeO.none _)
      | (with_reducible refine LeO.ite ?_ ?_)
      | (with_reducible refine LeO.bind ?_ (fun _ => ?_))
      | exact ih0 _ _ _ _ _ _ _
      | exact ih1 _ _ _ _
      | exact ih2 _ _ _ _ _ _
      | exact alu_Holds.mono _ _ _ _ _
      | exact posternlaw05_first.mono _
      | exact LeO.none _
      | refine LeO.ite ?_ ?_
      | refine LeO.bind ?_ (fun _ => ?_)
set_option maxHeartbeats 8000000 in
set_option maxRecDepth 100000 in
theorem posternlaw05_AluLaws.calls (k : Nat) (a0 : Int) (a1 : Int) (a2 : Bool) (r : Bool) (w : World) (h : posternlaw05_AluLaws.f k a0 a1 a2 = some r) :
    Calls Try.prog 9 #[.int .u64 a0, .int .u64 a1, .bool a2] w fun e w' => e = .returned (.bool r) ∧ Below w.heap.size w w' := by
  have hu55 := Try.underlying55
  have HB := Aside0.mk (Below.refl w.heap.size w)
  have H : ((posternlaw05_first.f k).bind fun t109 => (if t109 = true then ((alu_Do.f 0 a2 a0 a1).bind fun bt110 => ((alu_Do.f 16 a2 bt110.1 a1).bind fun bt112 => ((alu_Do.f 160 a2 a0 a1).bind fun bt114 => ((alu_Do.f 160 a2 bt114.1 a1).bind fun bt116 => ((alu_Do.f 48 a2 a0 a1).bind fun bt118 => ((alu_Do.f 32 a2 bt118.1 a1).bind fun bt120 => ((alu_Do.f 144 a2 a0 a1).bind fun bt122 => ((alu_Do.f 0 a2 bt120.1 bt122.1).bind fun bt124 => ((alu_Do.f 128 a2 a0 0).bind fun bt126 => ((alu_Do.f 128 a2 bt126.1 0).bind fun bt128 => (if a2 = true then (posternlaw05_AluLaws.j0 k a0 a1 a2 bt112.1 bt116.1 bt124.1 bt128.1) else (posternlaw05_AluLaws.j0 k (Go.bits .and .u64 a0 4294967295) a1 a2 bt112.1 bt116.1 bt124.1 bt128.1)))))))))))) else (some false))) = some r := h
  clear h
  replace H := Option.bind_eq_some_iff.mp H
  obtain ⟨t109, A40, H⟩ := H
  replace H : (if t109 = true then ((alu_Do.f 0 a2 a0 a1).bind fun bt110 => ((alu_Do.f 16 a2 bt110.1 a1).bind fun bt112 => ((alu_Do.f 160 a2 a0 a1).bind fun bt114 => ((alu_Do.f 160 a2 bt114.1 a1).bind fun bt116 => ((alu_Do.f 48 a2 a0 a1).bind fun bt118 => ((alu_Do.f 32 a2 bt118.1 a1).bind fun bt120 => ((alu_Do.f 144 a2 a0 a1).bind fun bt122 => ((alu_Do.f 0 a2 bt120.1 bt122.1).bind fun bt124 => ((alu_Do.f 128 a2 a0 0).bind fun bt126 => ((alu_Do.f 128 a2 bt126.1 0).bind fun bt128 => (if a2 = true then (posternlaw05_AluLaws.j0 k a0 a1 a2 bt112.1 bt116.1 bt124.1 bt128.1) else (posternlaw05_AluLaws.j0 k (Go.bits .and .u64 a0 4294967295) a1 a2 bt112.1 bt116.1 bt124.1 bt128.1)))))))))))) else (some false)) = some r := H
  have A4 := Aside0.mk A40
  clear A40
  by_cases c5 : t109 = true
  · subst c5
    have H1 : ((alu_Do.f 0 a2 a0 a1).bind fun bt110 => ((alu_Do.f 16 a2 bt110.1 a1).bind fun bt112 => ((alu_Do.f 160 a2 a0 a1).bind fun bt114 => ((alu_Do.f 160 a2 bt114.1 a1).bind fun bt116 => ((alu_Do.f 48 a2 a0 a1).bind fun bt118 => ((alu_Do.f 32 a2 bt118.1 a1).bind fun bt120 => ((alu_Do.f 144 a2 a0 a1).bind fun bt122 => ((alu_Do.f 0 a2 bt120.1 bt122.1).bind fun bt124 => ((alu_Do.f 128 a2 a0 0).bind fun bt126 => ((alu_Do.f 128 a2 bt126.1 0).bind fun bt128 => (if a2 = true then (posternlaw05_AluLaws.j0 k a0 a1 a2 bt112.1 bt116.1 bt124.1 bt128.1) else (posternlaw05_AluLaws.j0 k (Go.bits .and .u64 a0 4294967295) a1 a2 bt112.1 bt116.1 bt124.1 bt128.1)))))))))))) = some r := by rw [if_pos rfl] at H; exact H
    clear H
    have H := H1
    clear H1
    replace H := Option.bind_eq_some_iff.mp H
    obtain ⟨⟨t110, t111⟩, A60, H⟩ := H
    replace H : ((alu_Do.f 16 a2 t110 a1).bind fun bt112 => ((alu_Do.f 160 a2 a0 a1).bind fun bt114 => ((alu_Do.f 160 a2 bt114.1 a1).bind fun bt116 => ((alu_Do.f 48 a2 a0 a1).bind fun bt118 => ((alu_Do.f 32 a2 bt118.1 a1).bind fun bt120 => ((alu_Do.f 144 a2 a0 a1).bind fun bt122 => ((alu_Do.f 0 a2 bt120.1 bt122.1).bind fun bt124 => ((alu_Do.f 128 a2 a0 0).bind fun bt126 => ((alu_Do.f 128 a2 bt126.1 0).bind fun bt128 => (if a2 = true then (posternlaw05_AluLaws.j0 k a0 a1 a2 bt112.1 bt116.1 bt124.1 bt128.1) else (posternlaw05_AluLaws.j0 k (Go.bits .and .u64 a0 4294967295) a1 a2 bt112.1 bt116.1 bt124.1 bt128.1))))))))))) = some r := H
    have A6 := Aside0.mk A60
    clear A60
    replace H := Option.bind_eq_some_iff.mp H
    obtain ⟨⟨t112, t113⟩, A70, H⟩ := H
    replace H : ((alu_Do.f 160 a2 a0 a1).bind fun bt114 => ((alu_Do.f 160 a2 bt114.1 a1).bind fun bt116 => ((alu_Do.f 48 a2 a0 a1).bind fun bt118 => ((alu_Do.f 32 a2 bt118.1 a1).bind fun bt120 => ((alu_Do.f 144 a2 a0 a1).bind fun bt122 => ((alu_Do.f 0 a2 bt120.1 bt122.1).bind fun bt124 => ((alu_Do.f 128 a2 a0 0).bind fun bt126 => ((alu_Do.f 128 a2 bt126.1 0).bind fun bt128 => (if a2 = true then (posternlaw05_AluLaws.j0 k a0 a1 a2 t112 bt116.1 bt124.1 bt128.1) else (posternlaw05_AluLaws.j0 k (Go.bits .and .u64 a0 4294967295) a1 a2 t112 bt116.1 bt124.1 bt128.1)))))))))) = some r := H
    have A7 := Aside0.mk A70
    clear A70
    replace H := Option.bind_eq_some_iff.mp H
    obtain ⟨⟨t114, t115⟩, A80, H⟩ := H
    replace H : ((alu_Do.f 160 a2 t114 a1).bind fun bt116 => ((alu_Do.f 48 a2 a0 a1).bind fun bt118 => ((alu_Do.f 32 a2 bt118.1 a1).bind fun bt120 => ((alu_Do.f 144 a2 a0 a1).bind fun bt122 => ((alu_Do.f 0 a2 bt120.1 bt122.1).bind fun bt124 => ((alu_Do.f 128 a2 a0 0).bind fun bt126 => ((alu_Do.f 128 a2 bt126.1 0).bind fun bt128 => (if a2 = true then (posternlaw05_AluLaws.j0 k a0 a1 a2 t112 bt116.1 bt124.1 bt128.1) else (posternlaw05_AluLaws.j0 k (Go.bits .and .u64 a0 4294967295) a1 a2 t112 bt116.1 bt124.1 bt128.1))))))))) = some r := H
    have A8 := Aside0.mk A80
    clear A80
    replace H := Option.bind_eq_some_iff.mp H
    obtain ⟨⟨t116, t117⟩, A90, H⟩ := H
    replace H : ((alu_Do.f 48 a2 a0 a1).bind fun bt118 => ((alu_Do.f 32 a2 bt118.1 a1).bind fun bt120 => ((alu_Do.f 144 a2 a0 a1).bind fun bt122 => ((alu_Do.f 0 a2 bt120.1 bt122.1).bind fun bt124 => ((alu_Do.f 128 a2 a0 0).bind fun bt126 => ((alu_Do.f 128 a2 bt126.1 0).bind fun bt128 => (if a2 = true then (posternlaw05_AluLaws.j0 k a0 a1 a2 t112 t116 bt124.1 bt128.1) else (posternlaw05_AluLaws.j0 k (Go.bits .and .u64 a0 4294967295) a1 a2 t112 t116 bt124.1 bt128.1)))))))) = some r := H
    have A9 := Aside0.mk A90
    clear A90
    replace H := Option.bind_eq_some_iff.mp H
    obtain ⟨⟨t118, t119⟩, A100, H⟩ := H
    replace H : ((alu_Do.f 32 a2 t118 a1).bind fun bt120 => ((alu_Do.f 144 a2 a0 a1).bind fun bt122 => ((alu_Do.f 0 a2 bt120.1 bt122.1).bind fun bt124 => ((alu_Do.f 128 a2 a0 0).bind fun bt126 => ((alu_Do.f 128 a2 bt126.1 0).bind fun bt128 => (if a2 = true then (posternlaw05_AluLaws.j0 k a0 a1 a2 t112 t116 bt124.1 bt128.1) else (posternlaw05_AluLaws.j0 k (Go.bits .and .u64 a0 4294967295) a1 a2 t112 t116 bt124.1 bt128.1))))))) = some r := H
    have A10 := Aside0.mk A100
    clear A100
    replace H := Option.bind_eq_some_iff.mp H
    obtain ⟨⟨t120, t121⟩, A110, H⟩ := H
    replace H : ((alu_Do.f 144 a2 a0 a1).bind fun bt122 => ((alu_Do.f 0 a2 t120 bt122.1).bind fun bt124 => ((alu_Do.f 128 a2 a0 0).bind fun bt126 => ((alu_Do.f 128 a2 bt126.1 0).bind fun bt128 => (if a2 = true then (posternlaw05_AluLaws.j0 k a0 a1 a2 t112 t116 bt124.1 bt128.1) else (posternlaw05_AluLaws.j0 k (Go.bits .and .u64 a0 4294967295) a1 a2 t112 t116 bt124.1 bt128.1)))))) = some r := H
    have A11 := Aside0.mk A110
    clear A110
    replace H := Option.bind_eq_some_iff.mp H
    obtain ⟨⟨t122, t123⟩, A120, H⟩ := H
    replace H : ((alu_Do.f 0 a2 t120 t122).bind fun bt124 => ((alu_Do.f 128 a2 a0 0).bind fun bt126 => ((alu_Do.f 128 a2 bt126.1 0).bind fun bt128 => (if a2 = true then (posternlaw05_AluLaws.j0 k a0 a1 a2 t112 t116 bt124.1 bt128.1) else (posternlaw05_AluLaws.j0 k (Go.bits .and .u64 a0 4294967295) a1 a2 t112 t116 bt124.1 bt128.1))))) = some r := H
    have A12 := Aside0.mk A120
    clear A120
    replace H := Option.bind_eq_some_iff.mp H
    obtain ⟨⟨t124, t125⟩, A130, H⟩ := H
    replace H : ((alu_Do.f 128 a2 a0 0).bind fun bt126 => ((alu_Do.f 128 a2 bt126.1 0).bind fun bt128 => (if a2 = true then (posternlaw05_AluLaws.j0 k a0 a1 a2 t112 t116 t124 bt128.1) else (posternlaw05_AluLaws.j0 k (Go.bits .and .u64 a0 4294967295) a1 a2 t112 t116 t124 bt128.1)))) = some r := H
    have A13 := Aside0.mk A130
    clear A130
    replace H := Option.bind_eq_some_iff.mp H
    obtain ⟨⟨t126, t127⟩, A140, H⟩ := H
    replace H : ((alu_Do.f 128 a2 t126 0).bind fun bt128 => (if a2 = true then (posternlaw05_AluLaws.j0 k a0 a1 a2 t112 t116 t124 bt128.1) else (posternlaw05_AluLaws.j0 k (Go.bits .and .u64 a0 4294967295) a1 a2 t112 t116 t124 bt128.1))) = some r := H
    have A14 := Aside0.mk A140
    clear A140
    replace H := Option.bind_eq_some_iff.mp H
    obtain ⟨⟨t128, t129⟩, A150, H⟩ := H
    replace H : (if a2 = true then (posternlaw05_AluLaws.j0 k a0 a1 a2 t112 t116 t124 t128) else (posternlaw05_AluLaws.j0 k (Go.bits .and .u64 a0 4294967295) a1 a2 t112 t116 t124 t128)) = some r := H
    have A15 := Aside0.mk A150
    clear A150
    have HC16 := Aside0.mk H
    clear H
    go_enter Try.func9, Try.ntmps9
    go_upto_if 104 with (first | ((with_reducible refine gate_callee (f := 29) rfl ?_); refine goesL_ (some 33) rfl rfl Try.func29 (by kernel_rfl) rfl #[] rfl (by (try simp only [List.map_toArray, List.map_cons, List.map_nil]); first | done | rfl | (simp only [List.length_drop, List.length_take]; rfl)) ?_; (with_reducible refine (posternlaw05_first.calls k  true _ A4.out).mono ?_); rintro e w' ⟨rfl, ⟨nd, rfl⟩⟩; refine ⟨_, rfl, ?_⟩) | ((with_reducible refine gate_callee (f := 30) rfl ?_); refine goesL_ (some 39) rfl rfl Try.func30 (by kernel_rfl) rfl #[.int .i64 0, .bool a2, .int .u64 a0, .int .u64 a1] rfl (by (try simp only [List.map_toArray, List.map_cons, List.map_nil]); first | done | rfl | (simp only [List.length_drop, List.length_take]; rfl)) ?_; (with_reducible refine (alu_Do.calls 0 a2 a0 a1 t110 t111 _ A6.out).mono ?_); rintro e w' ⟨rfl, ⟨nd, rfl⟩⟩; refine ⟨_, rfl, ?_⟩) | ((with_reducible refine gate_callee (f := 30) rfl ?_); refine goesL_ (some 46) rfl rfl Try.func30 (by kernel_rfl) rfl #[.int .i64 16, .bool a2, .int .u64 t110, .int .u64 a1] rfl (by (try simp only [List.map_toArray, List.map_cons, List.map_nil]); first | done | rfl | (simp only [List.length_drop, List.length_take]; rfl)) ?_; (with_reducible refine (alu_Do.calls 16 a2 t110 a1 t112 t113 _ A7.out).mono ?_); rintro e w' ⟨rfl, ⟨nd, rfl⟩⟩; refine ⟨_, rfl, ?_⟩) | ((with_reducible refine gate_callee (f := 30) rfl ?_); refine goesL_ (some 53) rfl rfl Try.func30 (by kernel_rfl) rfl #[.int .i64 160, .bool a2, .int .u64 a0, .int .u64 a1] rfl (by (try simp only [List.map_toArray, List.map_cons, List.map_nil]); first | done | rfl | (simp only [List.length_drop, List.length_take]; rfl)) ?_; (with_reducible refine (alu_Do.calls 160 a2 a0 a1 t114 t115 _ A8.out).mono ?_); rintro e w' ⟨rfl, ⟨nd, rfl⟩⟩; refine ⟨_, rfl, ?_⟩) | ((with_reducible refine gate_callee (f := 30) rfl ?_); refine goesL_ (some 60) rfl rfl Try.func30 (by kernel_rfl) rfl #[.int .i64 160, .bool a2, .int .u64 t114, .int .u64 a1] rfl (by (try simp only [List.map_toArray, List.map_cons, List.map_nil]); first | done | rfl | (simp only [List.length_drop, List.length_take]; rfl)) ?_; (with_reducible refine (alu_Do.calls 160 a2 t114 a1 t116 t117 _ A9.out).mono ?_); rintro e w' ⟨rfl, ⟨nd, rfl⟩⟩; refine ⟨_, rfl, ?_⟩) | ((with_reducible refine gate_callee (f := 30) rfl ?_); refine goesL_ (some 67) rfl rfl Try.func30 (by kernel_rfl) rfl #[.int .i64 48, .bool a2, .int .u64 a0, .int .u64 a1] rfl (by (try simp only [List.map_toArray, List.map_cons, List.map_nil]); first | done | rfl | (simp only [List.length_drop, List.length_take]; rfl)) ?_; (with_reducible refine (alu_Do.calls 48 a2 a0 a1 t118 t119 _ A10.out).mono ?_); rintro e w' ⟨rfl, ⟨nd, rfl⟩⟩; refine ⟨_, rfl, ?_⟩) | ((with_reducible refine gate_callee (f := 30) rfl ?_); refine goesL_ (some 74) rfl rfl Try.func30 (by kernel_rfl) rfl #[.int .i64 32, .bool a2, .int .u64 t118, .int .u64 a1] rfl (by (try simp only [List.map_toArray, List.map_cons, List.map_nil]); first | done | rfl | (simp only [List.length_drop, List.length_take]; rfl)) ?_; (with_reducible refine (alu_Do.calls 32 a2 t118 a1 t120 t121 _ A11.out).mono ?_); rintro e w' ⟨rfl, ⟨nd, rfl⟩⟩; refine ⟨_, rfl, ?_⟩) | ((with_reducible refine gate_callee (f := 30) rfl ?_); refine goesL_ (some 81) rfl rfl Try.func30 (by kernel_rfl) rfl #[.int .i64 144, .bool a2, .int .u64 a0, .int .u64 a1] rfl (by (try simp only [List.map_toArray, List.map_cons, List.map_nil]); first | done | rfl | (simp only [List.length_drop, List.length_take]; rfl)) ?_; (with_reducible refine (alu_Do.calls 144 a2 a0 a1 t122 t123 _ A12.out).mono ?_); rintro e w' ⟨rfl, ⟨nd, rfl⟩⟩; refine ⟨_, rfl, ?_⟩) | ((with_reducible refine gate_callee (f := 30) rfl ?_); refine goesL_ (some 88) rfl rfl Try.func30 (by kernel_rfl) rfl #[.int .i64 0, .bool a2, .int .u64 t120, .int .u64 t122] rfl (by (try simp only [List.map_toArray, List.map_cons, List.map_nil]); first | done | rfl | (simp only [List.length_drop, List.length_take]; rfl)) ?_; (with_reducible refine (alu_Do.calls 0 a2 t120 t122 t124 t125 _ A13.out).mono ?_); rintro e w' ⟨rfl, ⟨nd, rfl⟩⟩; refine ⟨_, rfl, ?_⟩) | ((with_reducible refine gate_callee (f := 30) rfl ?_); refine goesL_ (some 94) rfl rfl Try.func30 (by kernel_rfl) rfl #[.int .i64 128, .bool a2, .int .u64 a0, .int .u64 0] rfl (by (try simp only [List.map_toArray, List.map_cons, List.map_nil]); first | done | rfl | (simp only [List.length_drop, List.length_take]; rfl)) ?_; (with_reducible refine (alu_Do.calls 128 a2 a0 0 t126 t127 _ A14.out).mono ?_); rintro e w' ⟨rfl, ⟨nd, rfl⟩⟩; refine ⟨_, rfl, ?_⟩) | ((with_reducible refine gate_callee (f := 30) rfl ?_); refine goesL_ (some 100) rfl rfl Try.func30 (by kernel_rfl) rfl #[.int .i64 128, .bool a2, .int .u64 t126, .int .u64 0] rfl (by (try simp only [List.map_toArray, List.map_cons, List.map_nil]); first | done | rfl | (simp only [List.length_drop, List.length_take]; rfl)) ?_; (with_reducible refine (alu_Do.calls 128 a2 t126 0 t128 t129 _ A15.out).mono ?_); rintro e w' ⟨rfl, ⟨nd, rfl⟩⟩; refine ⟨_, rfl, ?_⟩))
    (try simp only [Act.put, List.setIfInBounds_toArray, List.set_cons_zero, List.set_cons_succ])
    go_cut [0] (fun v0 wc => ∃ (kq : Nat) (x0_15 : Int), v0 = .int .u64 x0_15 ∧ Aside0 (posternlaw05_AluLaws.j0 kq x0_15 a1 a2 t112 t116 t124 t128 = some r) ∧ Aside0 (kq ≤ k) ∧ Aside0 (Below w.heap.size w wc))
    case first =>
      have H := HC16.out
      clear HC16
      by_cases c17 : a2 = true
      · subst c17
        have H1 : (posternlaw05_AluLaws.j0 k a0 a1 true t112 t116 t124 t128) = some r := by rw [if_pos rfl] at H; exact H
        clear H
        have H := H1
        clear H1
        have H' := Aside0.mk H
        clear H
        go_wp2
        go_meet
        case rel => exact ⟨_, (a0), (by first | rfl | (simp; done) | (simp [*]; done)), H', ⟨by first | omega | exact Nat.le_refl _⟩, ⟨by repeat (first | (with_reducible first | exact HB.out | apply below_alloc | apply pw_below_drewN | apply below_drew1) | exact HB.out)⟩⟩
      · replace c17 := Bool.eq_false_iff.mpr c17
        subst c17
        have H1 : (posternlaw05_AluLaws.j0 k (Go.bits .and .u64 a0 4294967295) a1 false t112 t116 t124 t128) = some r := by rw [if_neg (show ¬ (false = true) by decide)] at H; exact H
        clear H
        have H := H1
        clear H1
        have H' := Aside0.mk H
        clear H
        go_wp2
        go_meet
        case rel => exact ⟨_, (Go.bits .and .u64 a0 4294967295), (by first | rfl | (simp; done) | (simp [*]; done)), H', ⟨by first | omega | exact Nat.le_refl _⟩, ⟨by repeat (first | (with_reducible first | exact HB.out | apply below_alloc | apply pw_below_drewN | apply below_drew1) | exact HB.out)⟩⟩
    case rest =>
      clear HC16
      try clear c1
      try clear c2
      try clear p2
      try clear c3
      try clear c5
      try clear c9
      try clear c17
      obtain ⟨kq, x0_15, rfl, HA, HJ15, HB⟩ := hcut
      cases kq with
      | zero => exact absurd HA.out (by simp [posternlaw05_AluLaws.j0])
      | succ kj15 =>
        have H := HA.out
        clear HA
        simp only [posternlaw05_AluLaws.j0] at H
        have HC18 := Aside0.mk H
        clear H
        go_upto_region 15 with (fail)
        go_cut [124] (fun v124 wc => ∃ (kq : Nat) (x124_17 : Bool), v124 = .bool x124_17 ∧ Aside0 (posternlaw05_AluLaws.j1 kq x0_15 a1 a2 x124_17 = some r) ∧ Aside0 (kq ≤ kj15) ∧ Aside0 (Below w.heap.size w wc))
        case first =>
          have H := HC18.out
          clear HC18
          by_cases c19 : t112 = x0_15
          · rw [if_pos c19] at H
            have c19b0 : (t112 == x0_15) = true := beq_iff_eq.mpr c19
            have c19b1 : (t112 != x0_15) = false := bne_eq_false_iff_eq.mpr c19
            clear c19
            (first | rw [c19b0] | (simp only [i64_w, i32_w]; rw [c19b0]) | skip)
            by_cases c20 : t116 = x0_15
            · rw [if_pos c20] at H
              have c20b0 : (t116 == x0_15) = true := beq_iff_eq.mpr c20
              have c20b1 : (t116 != x0_15) = false := bne_eq_false_iff_eq.mpr c20
              clear c20
              by_cases c21 : t124 = x0_15
              · rw [if_pos c21] at H
                have c21b0 : (t124 == x0_15) = true := beq_iff_eq.mpr c21
                have c21b1 : (t124 != x0_15) = false := bne_eq_false_iff_eq.mpr c21
                clear c21
                have H' := Aside0.mk H
                clear H
                go_wp2
                go_meet
                case rel => exact ⟨_, ((t128 != x0_15)), (by first | rfl | (simp; done) | (simp [*]; done)), H', ⟨by have := HJ15.out; first | omega | exact Nat.le_refl _⟩, ⟨by repeat (first | (with_reducible first | exact HB.out | apply below_alloc | apply pw_below_drewN | apply below_drew1) | exact HB.out)⟩⟩
              · rw [if_neg c21] at H
                have c21b0 : (t124 == x0_15) = false := beq_eq_false_iff_ne.mpr c21
                have c21b1 : (t124 != x0_15) = true := bne_iff_ne.mpr c21
                have H' := Aside0.mk H
                clear H
                go_wp2
                go_meet
                case rel => exact ⟨_, (true), (by first | rfl | (simp; done) | (simp [*]; done)), H', ⟨by have := HJ15.out; first | omega | exact Nat.le_refl _⟩, ⟨by repeat (first | (with_reducible first | exact HB.out | apply below_alloc | apply pw_below_drewN | apply below_drew1) | exact HB.out)⟩⟩
            · rw [if_neg c20] at H
              have c20b0 : (t116 == x0_15) = false := beq_eq_false_iff_ne.mpr c20
              have c20b1 : (t116 != x0_15) = true := bne_iff_ne.mpr c20
              have H' := Aside0.mk H
              clear H
              go_wp2
              go_meet
              case rel => exact ⟨_, (true), (by first | rfl | (simp; done) | (simp [*]; done)), H', ⟨by have := HJ15.out; first | omega | exact Nat.le_refl _⟩, ⟨by repeat (first | (with_reducible first | exact HB.out | apply below_alloc | apply pw_below_drewN | apply below_drew1) | exact HB.out)⟩⟩
          · rw [if_neg c19] at H
            have c19b0 : (t112 == x0_15) = false := beq_eq_false_iff_ne.mpr c19
            have c19b1 : (t112 != x0_15) = true := bne_iff_ne.mpr c19
            (first | rw [c19b0] | (simp only [i64_w, i32_w]; rw [c19b0]) | skip)
            have H' := Aside0.mk H
            clear H
            go_wp2
            go_meet
            case rel => exact ⟨_, (true), (by first | rfl | (simp; done) | (simp [*]; done)), H', ⟨by have := HJ15.out; first | omega | exact Nat.le_refl _⟩, ⟨by repeat (first | (with_reducible first | exact HB.out | apply below_alloc | apply pw_below_drewN | apply below_drew1) | exact HB.out)⟩⟩
        case rest =>
          clear HC18
          try clear c1
          try clear c2
          try clear p2
          try clear c3
          try clear c5
          try clear c9
          try clear c17
          try clear c19
          try clear c19b0
          try clear c19b1
          try clear c20
          try clear c20b0
          try clear c20b1
          try clear c21
          try clear c21b0
          try clear c21b1
          try clear p2
          obtain ⟨kq, x124_17, rfl, HA, HJ17, HB⟩ := hcut
          cases kq with
          | zero => exact absurd HA.out (by simp [posternlaw05_AluLaws.j1])
          | succ kj17 =>
            have H := HA.out
            clear HA
            simp only [posternlaw05_AluLaws.j1] at H
            by_cases c22 : x124_17 = true
            · subst c22
              have H1 : (some false) = some r := by rw [if_pos rfl] at H; exact H
              clear H
              have H := H1
              clear H1
              obtain rfl := Option.some.inj H
              go_wp2
              go_ret
              exact ⟨by first | rfl | (simp [errW_none, errW_some] <;> rfl) | (simp [*, errW_none, errW_some] <;> rfl), by repeat (first | (with_reducible first | exact HB.out | apply below_alloc | apply pw_below_drewN | apply below_drew1) | exact HB.out)⟩
            · replace c22 := Bool.eq_false_iff.mpr c22
              subst c22
              have H1 : ((some (([(⟨16, 80⟩ : S55), (⟨32, 176⟩ : S55), (⟨48, 160⟩ : S55), (⟨96, 208⟩ : S55), (⟨112, 192⟩ : S55)] : List (S55)) : List (S55))).bind fun y130 => (posternlaw05_AluLaws.l0 kj17 x0_15 a1 a2 y130 (y130.length : Int) 0)) = some r := by rw [if_neg (show ¬ (false = true) by decide)] at H; exact H
              clear H
              have H := H1
              clear H1
              obtain ⟨y130, hy130⟩ : ∃ y_ : List (S55), y_ = (([(⟨16, 80⟩ : S55), (⟨32, 176⟩ : S55), (⟨48, 160⟩ : S55), (⟨96, 208⟩ : S55), (⟨112, 192⟩ : S55)] : List (S55))) := ⟨_, rfl⟩
              replace H : (posternlaw05_AluLaws.l0 kj17 x0_15 a1 a2 y130 (y130.length : Int) 0) = some r := by first | (rw [hy130]; with_reducible exact H) | (have H2_ := (Option.bind_some _ _).symm.trans H; rw [hy130]; with_reducible exact H2_) | (have H2_ := (Option.bind_some _ _).symm.trans H; with_reducible exact H2_) | with_reducible exact H | (rw [hy130]; exact H) | exact H
              have Ny130 := Aside0.mk hy130
              clear hy130
              have H' := Aside0.mk H
              clear H
              go_wp2_with (first | ((with_reducible refine gate_dst (N := 130) rfl ?_); refine Kd.R_lit k55 _ 55 ?hg (N := 130) ?hd (xs := ([(⟨16, 80⟩ : S55), (⟨32, 176⟩ : S55), (⟨48, 160⟩ : S55), (⟨96, 208⟩ : S55), (⟨112, 192⟩ : S55)] : List (S55))) (inner := [.int .i64 16, .int .i64 80, .int .i64 32, .int .i64 176, .int .i64 48, .int .i64 160, .int .i64 96, .int .i64 208, .int .i64 112, .int .i64 192]) (ok := fun _ => True) (okp := fun _ => True) ?hr ?hp (fun _ hk => hk) trivial (Below.refl _ _) (Nat.le_refl _) (by simp) ?_; (case hd => rfl); (case hg => rfl); (case hr => first | (go_simp; done) | (go_simp; rfl)); (case hp => exact (Reps.c2 (show Kd.M k55 _ _ _ (⟨16, 80⟩ : S55) [.int .i64 16, .int .i64 80] from (k55_mkM _ _ _ (⟨16, 80⟩ : S55) )) (Reps.c2 (show Kd.M k55 _ _ _ (⟨32, 176⟩ : S55) [.int .i64 32, .int .i64 176] from (k55_mkM _ _ _ (⟨32, 176⟩ : S55) )) (Reps.c2 (show Kd.M k55 _ _ _ (⟨48, 160⟩ : S55) [.int .i64 48, .int .i64 160] from (k55_mkM _ _ _ (⟨48, 160⟩ : S55) )) (Reps.c2 (show Kd.M k55 _ _ _ (⟨96, 208⟩ : S55) [.int .i64 96, .int .i64 208] from (k55_mkM _ _ _ (⟨96, 208⟩ : S55) )) (Reps.c2 (show Kd.M k55 _ _ _ (⟨112, 192⟩ : S55) [.int .i64 112, .int .i64 192] from (k55_mkM _ _ _ (⟨112, 192⟩ : S55) )) (Reps.none _ _))))))); intro v131 w23 ho24 hb hg_ hnew_; clear hg_ hnew_; (first | rw [← Ny130.out] at ho24 | (simp only [Int.reduceToNat] at ho24; rw [← Ny130.out] at ho24)); have n0_ := Aside0.mk (Kd.R_lower ho24 (below_size (by repeat (first | (with_reducible first | exact HB.out | apply below_alloc | apply pw_below_drewN | apply below_drew1) | exact HB.out)))); have n1_ := Aside0.mk (below_step (by repeat (first | (with_reducible first | exact HB.out | apply below_alloc | apply pw_below_drewN | apply below_drew1) | exact HB.out)) hb); clear HB; have HO132 := n0_; have HB := n1_; clear n0_ n1_; clear hb ho24; obtain ⟨Ao25, co25, eo25⟩ := Kd.R_slice HO132.out; subst eo25))
              go_loopg [132] kj17 (fun kq v132 w' => ∃ (x132_3 : Int), v132 = .int .i64 x132_3 ∧ Aside0 (posternlaw05_AluLaws.l0 kq x0_15 a1 a2 y130 (y130.length : Int) x132_3 = some r) ∧ Aside0 (kq ≤ kj17) ∧ Aside0 (Kd.R k55 55 w' w.heap.size (fun _ => True) (.slice Ao25 y130.length co25) y130) ∧ Aside0 (Below w.heap.size w w'))
              case atStart => exact ⟨(0), (by first | rfl | (simp; done) | (simp [*]; done)), H', ⟨Nat.le_refl _⟩, ⟨by (with_reducible repeat (first | apply Kd.R_alloc | apply Kd.R_drewN | apply Kd.R_drew)); exact HO132.out⟩, ⟨by repeat (first | (with_reducible first | exact HB.out | apply below_alloc | apply pw_below_drewN | apply below_drew1) | exact HB.out)⟩⟩
              case round =>
                clear H'
                try clear c1
                try clear c2
                try clear p2
                try clear c3
                try clear c5
                try clear c9
                try clear c17
                try clear c19
                try clear c19b0
                try clear c19b1
                try clear c20
                try clear c20b0
                try clear c20b1
                try clear c21
                try clear c21b0
                try clear c21b1
                try clear c22
                try clear p2
                obtain ⟨x132_3, rfl, HA, HK3, HO_130, HB⟩ := hrel
                cases gk with
                | zero => exact absurd HA.out (by simp [posternlaw05_AluLaws.l0])
                | succ k3 =>
                  have H := HA.out
                  clear HA
                  simp only [posternlaw05_AluLaws.l0] at H
                  by_cases c26 : x132_3 < (y130.length : Int)
                  · rw [if_pos c26] at H
                    have c26b0 : decide (x132_3 < (y130.length : Int)) = true := decide_eq_true c26
                    clear c26
                    by_cases c27 : 0 ≤ x132_3
                    · rw [if_pos c27] at H
                      have c27b0 : decide (0 ≤ x132_3) = true := decide_eq_true c27
                      clear c27
                      by_cases c28 : x132_3 < (y130.length : Int)
                      · rw [if_pos c28] at H
                        have c28b0 : decide (x132_3 < (y130.length : Int)) = true := decide_eq_true c28
                        clear c28
                        replace H := Option.bind_eq_some_iff.mp H
                        obtain ⟨⟨t135, t136⟩, A290, H⟩ := H
                        replace H : ((alu_Holds.f k3 ((rd_T55 y130 x132_3).f1) a2 x0_15 a1).bind fun bt137 => (if (t135 == bt137.1) = true then (some false) else (posternlaw05_AluLaws.l0 k3 x0_15 a1 a2 y130 (y130.length : Int) (wrap64 (x132_3 + 1))))) = some r := H
                        have A29 := Aside0.mk A290
                        clear A290
                        replace H := Option.bind_eq_some_iff.mp H
                        obtain ⟨⟨t137, t138⟩, A300, H⟩ := H
                        replace H : (if (t135 == t137) = true then (some false) else (posternlaw05_AluLaws.l0 k3 x0_15 a1 a2 y130 (y130.length : Int) (wrap64 (x132_3 + 1)))) = some r := H
                        have A30 := Aside0.mk A300
                        clear A300
                        by_cases c31 : (t135 == t137) = true
                        · rw [if_pos c31] at H
                          have c31b0 : (t135 == t137) = true := c31
                          (try (have c31b1 : decide (t135 = t137) = true := by simpa using c31))
                          (try (have c31b2 : (t135 == t137) = true := by simpa using c31))
                          clear c31
                          obtain rfl := Option.some.inj H
                          have p133 : 0 ≤ (x132_3 : Int) := of_decide_eq_true (by first | (with_reducible assumption) | assumption)
                          have q133 : x132_3 < (y130.length : Int) := of_decide_eq_true (by first | (with_reducible assumption) | assumption)
                          obtain ⟨ad133, e133, hx133_0, hx133_1⟩ := at_T55 (Kd.R_reads' HO_130.out).2.2 x132_3 p133 q133
                          cases e133
                          replace p133 := eq_true p133
                          replace q133 := eq_true q133
                          go_wp2_with (first | ((with_reducible refine gate_dst (N := 28) rfl ?_); refine box_event ?hg (N := 28) ?hd (cs := #[.int .i64 0, .int .i64 0]) (t := 55) ?hr ?_; (case hd => rfl); (case hg => rfl); (case hr => first | (go_simp; done) | (go_simp; rfl)); intro gb134 hg w32 hbox hb; have n0_ := Aside0.mk (Kd.R_below (Kd.R_elderB (by (with_reducible repeat (first | apply Kd.R_alloc | apply Kd.R_drewN | apply Kd.R_drew)); exact HO_130.out) gb134 (Nat.le_of_eq hg.symm)) hb); have n1_ := Aside0.mk (below_step (by repeat (first | (with_reducible first | exact HB.out | apply below_alloc | apply pw_below_drewN | apply below_drew1) | exact HB.out)) hb); have n2_ := Aside0.mk (hbox); have n3_ := Aside0.mk ((by rw [hg]; exact (below_size (by repeat (first | (with_reducible first | exact HB.out | apply below_alloc | apply pw_below_drewN | apply below_drew1) | exact HB.out))) : w.heap.size ≤ gb134)); have n4_ := Aside0.mk ((by rw [hg]; exact (below_size (by repeat (first | (with_reducible first | exact HB.out | apply below_alloc | apply pw_below_drewN | apply below_drew1) | exact HB.out))) : w.heap.size ≤ gb134)); clear HO_130; clear HB; have HO_130 := n0_; have HB := n1_; have BK134 := n2_; have GW134 := n3_; have GE134 := n4_; clear n0_ n1_ n2_ n3_ n4_; clear hb hbox hg; have hcz33_0 : w32.cell? ⟨gb134, 0, none⟩ = some (.int .i64 0) := (blk_cell BK134.out 0).trans rfl; have hcz33_1 : w32.cell? ⟨gb134, 1, none⟩ = some (.int .i64 0) := (blk_cell BK134.out 1).trans rfl; have hfz33_0 := blk_frozen BK134.out 0; have hfz33_1 := blk_frozen BK134.out 1) | ((with_reducible refine gate_callee (f := 33) rfl ?_); refine goesL_ (some 142) rfl rfl Try.func33 (by kernel_rfl) rfl #[.int .i64 ((rd_T55 y130 x132_3).f0), .bool a2, .int .u64 x0_15, .int .u64 a1] rfl (by (try simp only [List.map_toArray, List.map_cons, List.map_nil]); first | done | rfl | (simp only [List.length_drop, List.length_take]; rfl)) ?_; (with_reducible refine (alu_Holds.calls k3 ((rd_T55 y130 x132_3).f0) a2 x0_15 a1 t135 t136 _ A29.out).mono ?_); rintro e w' ⟨rfl, ⟨nd, rfl⟩⟩; refine ⟨_, rfl, ?_⟩) | ((with_reducible refine gate_callee (f := 33) rfl ?_); refine goesL_ (some 151) rfl rfl Try.func33 (by kernel_rfl) rfl #[.int .i64 ((rd_T55 y130 x132_3).f1), .bool a2, .int .u64 x0_15, .int .u64 a1] rfl (by (try simp only [List.map_toArray, List.map_cons, List.map_nil]); first | done | rfl | (simp only [List.length_drop, List.length_take]; rfl)) ?_; (with_reducible refine (alu_Holds.calls k3 ((rd_T55 y130 x132_3).f1) a2 x0_15 a1 t137 t138 _ A30.out).mono ?_); rintro e w' ⟨rfl, ⟨nd, rfl⟩⟩; refine ⟨_, rfl, ?_⟩))
                          go_ret
                          exact ⟨by first | rfl | (simp [errW_none, errW_some] <;> rfl) | (simp [*, errW_none, errW_some] <;> rfl), by repeat (first | (with_reducible first | exact HB.out | apply below_alloc | apply pw_below_drewN | apply below_drew1 | refine below_set ?_ GE134.out) | exact HB.out)⟩
                        · rw [if_neg c31] at H
                          have c31b0 : (t135 == t137) = false := by simpa using c31
                          (try (have c31b1 : decide (t135 = t137) = false := by simpa using c31))
                          (try (have c31b2 : (t135 == t137) = false := by simpa using c31))
                          (try (have c31b3 : ¬ (t135 = t137) := by simpa using c31))
                          clear c31
                          have H' := Aside0.mk H
                          clear H
                          have p133 : 0 ≤ (x132_3 : Int) := of_decide_eq_true (by first | (with_reducible assumption) | assumption)
                          have q133 : x132_3 < (y130.length : Int) := of_decide_eq_true (by first | (with_reducible assumption) | assumption)
                          obtain ⟨ad133, e133, hx133_0, hx133_1⟩ := at_T55 (Kd.R_reads' HO_130.out).2.2 x132_3 p133 q133
                          cases e133
                          replace p133 := eq_true p133
                          replace q133 := eq_true q133
                          go_wp2_with (first | ((with_reducible refine gate_dst (N := 28) rfl ?_); refine box_event ?hg (N := 28) ?hd (cs := #[.int .i64 0, .int .i64 0]) (t := 55) ?hr ?_; (case hd => rfl); (case hg => rfl); (case hr => first | (go_simp; done) | (go_simp; rfl)); intro gb134 hg w34 hbox hb; have n0_ := Aside0.mk (Kd.R_below (Kd.R_elderB (by (with_reducible repeat (first | apply Kd.R_alloc | apply Kd.R_drewN | apply Kd.R_drew)); exact HO_130.out) gb134 (Nat.le_of_eq hg.symm)) hb); have n1_ := Aside0.mk (below_step (by repeat (first | (with_reducible first | exact HB.out | apply below_alloc | apply pw_below_drewN | apply below_drew1) | exact HB.out)) hb); have n2_ := Aside0.mk (hbox); have n3_ := Aside0.mk ((by rw [hg]; exact (below_size (by repeat (first | (with_reducible first | exact HB.out | apply below_alloc | apply pw_below_drewN | apply below_drew1) | exact HB.out))) : w.heap.size ≤ gb134)); have n4_ := Aside0.mk ((by rw [hg]; exact (below_size (by repeat (first | (with_reducible first | exact HB.out | apply below_alloc | apply pw_below_drewN | apply below_drew1) | exact HB.out))) : w.heap.size ≤ gb134)); clear HO_130; clear HB; have HO_130 := n0_; have HB := n1_; have BK134 := n2_; have GW134 := n3_; have GE134 := n4_; clear n0_ n1_ n2_ n3_ n4_; clear hb hbox hg; have hcz35_0 : w34.cell? ⟨gb134, 0, none⟩ = some (.int .i64 0) := (blk_cell BK134.out 0).trans rfl; have hcz35_1 : w34.cell? ⟨gb134, 1, none⟩ = some (.int .i64 0) := (blk_cell BK134.out 1).trans rfl; have hfz35_0 := blk_frozen BK134.out 0; have hfz35_1 := blk_frozen BK134.out 1) | ((with_reducible refine gate_callee (f := 33) rfl ?_); refine goesL_ (some 142) rfl rfl Try.func33 (by kernel_rfl) rfl #[.int .i64 ((rd_T55 y130 x132_3).f0), .bool a2, .int .u64 x0_15, .int .u64 a1] rfl (by (try simp only [List.map_toArray, List.map_cons, List.map_nil]); first | done | rfl | (simp only [List.length_drop, List.length_take]; rfl)) ?_; (with_reducible refine (alu_Holds.calls k3 ((rd_T55 y130 x132_3).f0) a2 x0_15 a1 t135 t136 _ A29.out).mono ?_); rintro e w' ⟨rfl, ⟨nd, rfl⟩⟩; refine ⟨_, rfl, ?_⟩) | ((with_reducible refine gate_callee (f := 33) rfl ?_); refine goesL_ (some 151) rfl rfl Try.func33 (by kernel_rfl) rfl #[.int .i64 ((rd_T55 y130 x132_3).f1), .bool a2, .int .u64 x0_15, .int .u64 a1] rfl (by (try simp only [List.map_toArray, List.map_cons, List.map_nil]); first | done | rfl | (simp only [List.length_drop, List.length_take]; rfl)) ?_; (with_reducible refine (alu_Holds.calls k3 ((rd_T55 y130 x132_3).f1) a2 x0_15 a1 t137 t138 _ A30.out).mono ?_); rintro e w' ⟨rfl, ⟨nd, rfl⟩⟩; refine ⟨_, rfl, ?_⟩))
                          go_roundg k3
                          case measure => have := HJ15.out; have := HJ17.out; have := HK3.out; omega
                          case rel => exact ⟨(wrap64 (x132_3 + 1)), (by first | rfl | (simp; done) | (simp [*]; done)), H', ⟨by have := HJ15.out; have := HJ17.out; have := HK3.out; omega⟩, ⟨by (with_reducible repeat (first | apply Kd.R_alloc | apply Kd.R_drewN | apply Kd.R_drew)); exact Kd.R_mono (Kd.R_far (p := ⟨gb134, 1, none⟩) (Kd.R_far (p := ⟨gb134, 0, none⟩) (Kd.R_mono HO_130.out (fun k_ hk => (⟨hk, hk.2⟩ : _ ∧ k_ ≠ gb134))) (fun _ hk => hk.2) (.int .i64 ((rd_T55 y130 x132_3).f0))) (fun _ hk => hk.2) (.int .i64 ((rd_T55 y130 x132_3).f1))) (fun _ hk => trivial)⟩, ⟨by repeat (first | (with_reducible first | exact HB.out | apply below_alloc | apply pw_below_drewN | apply below_drew1 | refine below_set ?_ GE134.out) | exact HB.out)⟩⟩
                      · rw [if_neg c28] at H
                        exact absurd H (by simp)
                    · rw [if_neg c27] at H
                      exact absurd H (by simp)
                  · rw [if_neg c26] at H
                    have c26b0 : decide (x132_3 < (y130.length : Int)) = false := decide_eq_false c26
                    clear c26
                    obtain rfl := Option.some.inj H
                    go_wp2
                    go_ret
                    exact ⟨by first | rfl | (simp [errW_none, errW_some] <;> rfl) | (simp [*, errW_none, errW_some] <;> rfl), by repeat (first | (with_reducible first | exact HB.out | apply below_alloc | apply pw_below_drewN | apply below_drew1) | exact HB.out)⟩
  · replace c5 := Bool.eq_false_iff.mpr c5
    subst c5
    have H1 : (some false) = some r := by rw [if_neg (show ¬ (false = true) by decide)] at H; exact H
    clear H
    have H := H1
    clear H1
    obtain rfl := Option.some.inj H
    go_enter Try.func9, Try.ntmps9
    go_wp2_with (first | ((with_reducible refine gate_callee (f := 29) rfl ?_); refine goesL_ (some 33) rfl rfl Try.func29 (by kernel_rfl) rfl #[] rfl (by (try simp only [List.map_toArray, List.map_cons, List.map_nil]); first | done | rfl | (simp only [List.length_drop, List.length_take]; rfl)) ?_; (with_reducible refine (posternlaw05_first.calls k  false _ A4.out).mono ?_); rintro e w' ⟨rfl, ⟨nd, rfl⟩⟩; refine ⟨_, rfl, ?_⟩))
    go_ret
    exact ⟨by first | rfl | (simp [errW_none, errW_some] <;> rfl) | (simp [*, errW_none, errW_some] <;> rfl), by repeat (first | (with_reducible first | exact HB.out | apply below_alloc | apply pw_below_drewN | apply below_drew1) | exact HB.out)⟩

/-- THE ONE PURE STATEMENT of posternlaw05_AluLaws: yours. -/
def posternlaw05_AluLaws.Pure : Prop := ∀ (a0 : Int) (a1 : Int) (a2 : Bool), (Lit.int .u64 a0).wf = true → (Lit.int .u64 a1).wf = true → ∃ k, posternlaw05_AluLaws.f k a0 a1 a2 = some true
theorem posternlaw05_AluLaws.walk (P : posternlaw05_AluLaws.Pure) (a0 : Int) (a1 : Int) (a2 : Bool) (w : World) (w0 : (Lit.int .u64 a0).wf = true) (w1 : (Lit.int .u64 a1).wf = true) :
    Calls Try.prog 9 #[.int .u64 a0, .int .u64 a1, .bool a2] w fun e w' => e = .returned (.bool true) ∧ Below w.heap.size w w' := by
  obtain ⟨k, h⟩ := P a0 a1 a2 w0 w1
  refine (posternlaw05_AluLaws.calls k a0 a1 a2 true w h).mono ?_
  rintro e w' ⟨rfl, hd⟩
  exact ⟨rfl, hd⟩

end Go.Proofs.Ytpkgegklpbholaa.PAluLaws
