-- Written by a program of this session (a variant of the print), for this claim. Lean checks it.
import Derived.Test.YtiekhgllnpgjcaaPInsnPlainx0
import Derived.Test.YtiekhgllnpgjcaaPInsnPlainx3
import Derived.Test.YtiekhgllnpgjcaaPInsnPlainx5
import Derived.Test.YtiekhgllnpgjcaaPInsnPlainx7
namespace Go.Proofs.Ytiekhgllnpgjcaa.PInsnPlain
open Go.RowKit Go.Proofs.YtiekhgllnpgjcaaW.PrintWords Go.Proofs.YtiekhgllnpgjcaaW.PrintLast Go.Proofs.YtiekhgllnpgjcaaW.PrintMore
attribute [local go_sem] max2_int min2_int max_two min_two max_three min_three max_four min_four   -- for this text's walks alone
attribute [local go_sem high] Go.Proofs.Ytiekhgllnpgjcaa.NotLaw.not_u64 Go.Proofs.Ytiekhgllnpgjcaa.NotLaw.not_u32 Go.Proofs.Ytiekhgllnpgjcaa.NotLaw.not_u16 Go.Proofs.Ytiekhgllnpgjcaa.NotLaw.not_u8
set_option linter.unusedVariables false
set_option linter.unusedSimpArgs false

/-! ### posternlaw02_InsnPlain: function 7 -/
def posternlaw02_InsnPlain.f (k : Nat) (l0 : List (S24)) (a1 : Int) : Option (Bool) := (posternlaw02_first.f k).bind fun t169 => (if t169 = true then ((insn_Plain.f k l0 a1).bind fun bt170 => ((posternref02_Plain.f k l0 a1).bind fun bt172 => (if bt170.1 = bt172.1 then (some (bt170.2 == bt172.2)) else (some false)))) else (some false))
theorem posternlaw02_InsnPlain.mono : ∀ a0 a1 k, LeO (posternlaw02_InsnPlain.f k a0 a1) (posternlaw02_InsnPlain.f (k + 1) a0 a1) := by
  intro a0 a1 k
  unfold posternlaw02_InsnPlain.f
  repeat' first
      | (with_reducible exact insn_Plain.mono _ _ _)
      | (with_reducible exact posternlaw02_first.mono _)
      | (with_reducible exact posternref02_Plain.mono _ _ _)
      | (with_reducible exact LeO.refl _)
      | (with_reducible exact LeO.none _)
      | (with_reducible refine LeO.ite ?_ ?_)
      | (with_reducible refine LeO.bind ?_ (fun _ => ?_))
      | exact insn_Plain.mono _ _ _
      | exact posternlaw02_first.mono _
      | exact posternref02_Plain.mono _ _ _
      | exact LeO.none _
      | refine LeO.ite ?_ ?_
      | refine LeO.bind ?_ (fun _ => ?_)
set_option maxHeartbeats 8000000 in
set_option maxRecDepth 100000 in
theorem posternlaw02_InsnPlain.calls (k : Nat) (A0 : Option Addr) (c0 : Nat) (l0 : List (S24)) (a1 : Int) (r : Bool) (w : World) (hr_ : Aside0 (r = true)) (hr0 : Kd.C k24 w A0 l0.length l0) (hc0 : l0.length ≤ c0) (h : posternlaw02_InsnPlain.f k l0 a1 = some r) :
    Calls Try.prog 7 #[.slice A0 l0.length c0, .int .i64 a1] w fun e w' => e = .returned (.bool r) ∧ Below w.heap.size w w' := by
  have HR0 := Aside0.mk hr0
  have HC0 := Aside0.mk hc0
  clear hr0 hc0
  have HB := Aside0.mk (Below.refl w.heap.size w)
  have H : ((posternlaw02_first.f k).bind fun t169 => (if t169 = true then ((insn_Plain.f k l0 a1).bind fun bt170 => ((posternref02_Plain.f k l0 a1).bind fun bt172 => (if bt170.1 = bt172.1 then (some (bt170.2 == bt172.2)) else (some false)))) else (some false))) = some r := h
  clear h
  replace H := Option.bind_eq_some_iff.mp H
  obtain ⟨t169, A30, H⟩ := H
  replace H : (if t169 = true then ((insn_Plain.f k l0 a1).bind fun bt170 => ((posternref02_Plain.f k l0 a1).bind fun bt172 => (if bt170.1 = bt172.1 then (some (bt170.2 == bt172.2)) else (some false)))) else (some false)) = some r := H
  have A3 := Aside0.mk A30
  clear A30
  by_cases c4 : t169 = true
  · subst c4
    have H1 : ((insn_Plain.f k l0 a1).bind fun bt170 => ((posternref02_Plain.f k l0 a1).bind fun bt172 => (if bt170.1 = bt172.1 then (some (bt170.2 == bt172.2)) else (some false)))) = some r := by rw [if_pos rfl] at H; exact H
    clear H
    have H := H1
    clear H1
    replace H := Option.bind_eq_some_iff.mp H
    obtain ⟨⟨t170, t171⟩, A50, H⟩ := H
    replace H : ((posternref02_Plain.f k l0 a1).bind fun bt172 => (if t170 = bt172.1 then (some (t171 == bt172.2)) else (some false))) = some r := H
    have A5 := Aside0.mk A50
    clear A50
    replace H := Option.bind_eq_some_iff.mp H
    obtain ⟨⟨t172, t173⟩, A60, H⟩ := H
    replace H : (if t170 = t172 then (some (t171 == t173)) else (some false)) = some r := H
    have A6 := Aside0.mk A60
    clear A60
    by_cases c7 : t170 = t172
    · rw [if_pos c7] at H
      have c7b0 : (t170 == t172) = true := beq_iff_eq.mpr c7
      have c7b1 : (t170 != t172) = false := bne_eq_false_iff_eq.mpr c7
      clear c7
      obtain rfl := Option.some.inj H
      go_enter Try.func7, Try.ntmps7
      go_wp2_with (first | ((with_reducible refine gate_callee (f := 13) rfl ?_); refine goesL_ (some 9) rfl rfl Try.func13 (by kernel_rfl) rfl #[] rfl (by (try simp only [List.map_toArray, List.map_cons, List.map_nil]); first | done | rfl | (simp only [List.length_drop, List.length_take]; rfl)) ?_; (with_reducible refine (posternlaw02_first.calls k  true _ A3.out).mono ?_); rintro e w8 ⟨rfl, hb⟩; refine ⟨_, rfl, ?_⟩; have n0_ := Aside0.mk (below_step (by repeat (first | (with_reducible first | exact HB.out | apply below_alloc | apply pw_below_drewN | apply below_drew1) | exact HB.out)) hb); clear HB; have HB := n0_; clear n0_; (try clear hb); (try clear hb2); (try clear hk); (try clear hi)) | ((with_reducible refine gate_callee (f := 29) rfl ?_); refine goesL_ (some 14) rfl rfl Try.func29 (by kernel_rfl) rfl #[.slice A0 l0.length c0, .int .i64 a1] rfl (by (try simp only [List.map_toArray, List.map_cons, List.map_nil]); first | done | rfl | (simp only [List.length_drop, List.length_take]; rfl)) ?_; (with_reducible refine (insn_Plain.calls k _ _ l0 a1 t170 t171 _ ?side1 ?side2 A5.out).mono ?_); (case side1 => repeat (first | exact (Kd.C_below HR0.out HB.out) | (with_reducible refine Kd.C_alloc ?_ _) | (with_reducible refine Kd.C_drewN ?_ _) | (with_reducible refine Kd.C_drew ?_))); (case side2 => exact HC0.out); rintro e w9 ⟨rfl, hb⟩; refine ⟨_, rfl, ?_⟩; have n0_ := Aside0.mk (below_step (by repeat (first | (with_reducible first | exact HB.out | apply below_alloc | apply pw_below_drewN | apply below_drew1) | exact HB.out)) hb); clear HB; have HB := n0_; clear n0_; (try clear hb); (try clear hb2); (try clear hk); (try clear hi)) | ((with_reducible refine gate_callee (f := 30) rfl ?_); refine goesL_ (some 20) rfl rfl Try.func30 (by kernel_rfl) rfl #[.slice A0 l0.length c0, .int .i64 a1] rfl (by (try simp only [List.map_toArray, List.map_cons, List.map_nil]); first | done | rfl | (simp only [List.length_drop, List.length_take]; rfl)) ?_; (with_reducible refine (posternref02_Plain.calls k _ _ l0 a1 t172 t173 _ ?side1 ?side2 A6.out).mono ?_); (case side1 => repeat (first | exact (Kd.C_below HR0.out HB.out) | (with_reducible refine Kd.C_alloc ?_ _) | (with_reducible refine Kd.C_drewN ?_ _) | (with_reducible refine Kd.C_drew ?_))); (case side2 => exact HC0.out); rintro e w10 ⟨rfl, hb⟩; refine ⟨_, rfl, ?_⟩; have n0_ := Aside0.mk (below_step (by repeat (first | (with_reducible first | exact HB.out | apply below_alloc | apply pw_below_drewN | apply below_drew1) | exact HB.out)) hb); clear HB; have HB := n0_; clear n0_; (try clear hb); (try clear hb2); (try clear hk); (try clear hi)))
      go_ret
      exact ⟨by first | rfl | (simp [errW_none, errW_some] <;> rfl) | (simp [*, errW_none, errW_some] <;> rfl), by repeat (first | (with_reducible first | exact HB.out | apply below_alloc | apply pw_below_drewN | apply below_drew1) | exact HB.out)⟩
    · rw [if_neg c7] at H
      have c7b0 : (t170 == t172) = false := beq_eq_false_iff_ne.mpr c7
      have c7b1 : (t170 != t172) = true := bne_iff_ne.mpr c7
      exact absurd (H.trans (congrArg some hr_.out)) (by simp)
  · replace c4 := Bool.eq_false_iff.mpr c4
    subst c4
    have H1 : (some false) = some r := by rw [if_neg (show ¬ (false = true) by decide)] at H; exact H
    clear H
    have H := H1
    clear H1
    exact absurd (H.trans (congrArg some hr_.out)) (by simp)

end Go.Proofs.Ytiekhgllnpgjcaa.PInsnPlain
