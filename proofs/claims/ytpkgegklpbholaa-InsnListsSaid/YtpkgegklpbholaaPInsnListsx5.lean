-- Written by a program of this session (a variant of the print), for this claim. Lean checks it.
import Derived.Test.YtpkgegklpbholaaPInsnListsx0
import Derived.Test.YtpkgegklpbholaaPInsnListsx1
import Derived.Test.YtpkgegklpbholaaPInsnListsx3
import Derived.Test.YtpkgegklpbholaaPInsnListsx4
namespace Go.Proofs.Ytpkgegklpbholaa.PInsnLists
open Go.RowKit Go.Proofs.YtpkgegklpbholaaW.PrintWords Go.Proofs.YtpkgegklpbholaaW.PrintLast Go.Proofs.YtpkgegklpbholaaW.PrintMore
attribute [local go_sem] max2_int min2_int max_two min_two max_three min_three max_four min_four   -- for this text's walks alone
attribute [local go_sem high] Go.Proofs.Ytpkgegklpbholaa.NotLaw.not_u64 Go.Proofs.Ytpkgegklpbholaa.NotLaw.not_u32 Go.Proofs.Ytpkgegklpbholaa.NotLaw.not_u16 Go.Proofs.Ytpkgegklpbholaa.NotLaw.not_u8
set_option linter.unusedVariables false
set_option linter.unusedSimpArgs false

attribute [local go_sem high] eqA24
/-! ### posternlaw02_InsnLists: function 6 -/
mutual
def posternlaw02_InsnLists.l0 : Nat → List (S24) → List (S24) → List Int → List Int → Int → Int → Option (Bool)
  | 0, _, _, _, _, _, _ => none
  | k + 1, x0, x3, x4, x5, x19, x20 => if x20 < x19 then (if 0 ≤ x20 then (if x20 < (x3.length : Int) then ((posternref02_Bytes.f k ((rd_T24 x3 x20).f0) ((rd_T24 x3 x20).f1) ((rd_T24 x3 x20).f2) ((rd_T24 x3 x20).f3) ((rd_T24 x3 x20).f4)).bind fun t187 => (if x5.length + t187.length < 140737488355328 then (if x20 < (x0.length : Int) then (if (!(((rd_T24 x0 x20).f0) == ((rd_T24 x3 x20).f0)) || (!(((rd_T24 x0 x20).f1) == ((rd_T24 x3 x20).f1)) || (!(((rd_T24 x0 x20).f2) == ((rd_T24 x3 x20).f2)) || (!(((rd_T24 x0 x20).f3) == ((rd_T24 x3 x20).f3)) || (!(((rd_T24 x0 x20).f4) == ((rd_T24 x3 x20).f4))))))) = true then (some false) else (posternlaw02_InsnLists.l0 k x0 x3 x4 (x5 ++ t187) x19 (wrap64 (x20 + 1)))) else (none)) else (none))) else (none)) else (none)) else ((insn_Decode.f k x4).bind fun bt195 => (if (strOfNums x4).toList = (strOfNums x5).toList then (if bt195.2 = 0 then (posternlaw02_InsnLists.j1 k x3 bt195.1 ((bt195.1.length : Int) != (x0.length : Int))) else (posternlaw02_InsnLists.j1 k x3 bt195.1 true)) else (posternlaw02_InsnLists.j1 k x3 bt195.1 true)))
def posternlaw02_InsnLists.j1 : Nat → List (S24) → List (S24) → Bool → Option (Bool)
  | 0, _, _, _ => none
  | k + 1, x3, x7, x60 => if x60 = true then (some false) else (posternlaw02_InsnLists.l1 k x3 x7 (x7.length : Int) 0)
def posternlaw02_InsnLists.l1 : Nat → List (S24) → List (S24) → Int → Int → Option (Bool)
  | 0, _, _, _, _ => none
  | k + 1, x3, x7, x62, x63 => if x63 < x62 then (if 0 ≤ x63 then (if x63 < (x3.length : Int) then (if x63 < (x7.length : Int) then (if (!(((rd_T24 x7 x63).f0) == ((rd_T24 x3 x63).f0)) || (!(((rd_T24 x7 x63).f1) == (Int.tmod ((rd_T24 x3 x63).f1) 16)) || (!(((rd_T24 x7 x63).f2) == (Int.tmod ((rd_T24 x3 x63).f2) 16)) || (!(((rd_T24 x7 x63).f3) == ((rd_T24 x3 x63).f3)) || (!(((rd_T24 x7 x63).f4) == ((rd_T24 x3 x63).f4))))))) = true then (some false) else (posternlaw02_InsnLists.l1 k x3 x7 x62 (wrap64 (x63 + 1)))) else (none)) else (none)) else (none)) else (some true)
end
def posternlaw02_InsnLists.f (k : Nat) (l0 : List (S24)) : Option (Bool) := (posternlaw02_first.f k).bind fun t176 => (if t176 = true then ((some (([] : List (S24)) : List (S24))).bind fun y177 => (if y177.length + l0.length < 11728124029610 then ((some (y177 ++ l0 : List (S24))).bind fun y180 => ((insn_Encode.f k l0).bind fun t183 => (posternlaw02_InsnLists.l0 k l0 y180 t183 ([] : List Int) (y180.length : Int) 0))) else (none))) else (some false))
theorem posternlaw02_InsnLists.mono_l : ∀ k, (∀ y0 y1 y2 y3 y4 y5, LeO (posternlaw02_InsnLists.l0 k y0 y1 y2 y3 y4 y5) (posternlaw02_InsnLists.l0 (k + 1) y0 y1 y2 y3 y4 y5)) ∧ (∀ y0 y1 y2, LeO (posternlaw02_InsnLists.j1 k y0 y1 y2) (posternlaw02_InsnLists.j1 (k + 1) y0 y1 y2)) ∧ (∀ y0 y1 y2 y3, LeO (posternlaw02_InsnLists.l1 k y0 y1 y2 y3) (posternlaw02_InsnLists.l1 (k + 1) y0 y1 y2 y3))
  | 0 => ⟨fun _ _ _ _ _ _ r h => by simp [posternlaw02_InsnLists.l0] at h, fun _ _ _ r h => by simp [posternlaw02_InsnLists.j1] at h, fun _ _ _ _ r h => by simp [posternlaw02_InsnLists.l1] at h⟩
  | k + 1 => by
    obtain ⟨ih0, ih1, ih2⟩ := posternlaw02_InsnLists.mono_l k
    refine ⟨?_, ?_, ?_⟩
    · intro y0 y1 y2 y3 y4 y5
      unfold posternlaw02_InsnLists.l0
      repeat' first
      | (with_reducible exact ih0 _ _ _ _ _ _)
      | (with_reducible exact ih1 _ _ _)
      | (with_reducible exact ih2 _ _ _ _)
      | (with_reducible exact insn_Decode.mono _ _)
      | (with_reducible exact insn_Encode.mono _ _)
      | (with_reducible exact posternlaw02_first.mono _)
      | (with_reducible exact posternref02_Bytes.mono _ _ _ _ _ _)
      | (with_reducible exact LeO.refl _)
      | (with_reducible exact LeO.none _)
      | (with_reducible refine LeO.ite ?_ ?_)
      | (with_reducible refine LeO.bind ?_ (fun _ => ?_))
      | exact ih0 _ _ _ _ _ _
      | exact ih1 _ _ _
      | exact ih2 _ _ _ _
      | exact insn_Decode.mono _ _
      | exact insn_Encode.mono _ _
      | exact posternlaw02_first.mono _
      | exact posternref02_Bytes.mono _ _ _ _ _ _
      | exact LeO.none _
      | refine LeO.ite ?_ ?_
      | refine LeO.bind ?_ (fun _ => ?_)
    · intro y0 y1 y2
      unfold posternlaw02_InsnLists.j1
      repeat' first
      | (with_reducible exact ih0 _ _ _ _ _ _)
      | (with_reducible exact ih1 _ _ _)
      | (with_reducible exact ih2 _ _ _ _)
      | (with_reducible exact insn_Decode.mono _ _)
      | (with_reducible exact insn_Encode.mono _ _)
      | (with_reducible exact posternlaw02_first.mono _)
      | (with_reducible exact posternref02_Bytes.mono _ _ _ _ _ _)
      | (with_reducible exact LeO.refl _)
      | (with_reducible exact LeO.none _)
      | (with_reducible refine LeO.ite ?_ ?_)
      | (with_reducible refine LeO.bind ?_ (fun _ => ?_))
      | exact ih0 _ _ _ _ _ _
      | exact ih1 _ _ _
      | exact ih2 _ _ _ _
      | exact insn_Decode.mono _ _
      | exact insn_Encode.mono _ _
      | exact posternlaw02_first.mono _
      | exact posternref02_Bytes.mono _ _ _ _ _ _
      | exact LeO.none _
      | refine LeO.ite ?_ ?_
      | refine LeO.bind ?_ (fun _ => ?_)
    · intro y0 y1 y2 y3
      unfold posternlaw02_InsnLists.l1
      repeat' first
      | (with_reducible exact ih0 _ _ _ _ _ _)
      | (with_reducible exact ih1 _ _ _)
      | (with_reducible exact ih2 _ _ _ _)
      | (with_reducible exact insn_Decode.mono _ _)
      | (with_reducible exact insn_Encode.mono _ _)
      | (with_reducible exact posternlaw02_first.mono _)
      | (with_reducible exact posternref02_Bytes.mono _ _ _ _ _ _)
      | (with_reducible exact LeO.refl _)
      | (with_reducible exact LeO.none _)
      | (with_reducible refine LeO.ite ?_ ?_)
      | (with_reducible refine LeO.bind ?_ (fun _ => ?_))
      | exact ih0 _ _ _ _ _ _
      | exact ih1 _ _ _
      | exact ih2 _ _ _ _
      | exact insn_Decode.mono _ _
      | exact insn_Encode.mono _ _
      | exact posternlaw02_first.mono _
      | exact posternref02_Bytes.mono _ _ _ _ _ _
      | exact LeO.none _
      | refine LeO.ite ?_ ?_
      | refine LeO.bind ?_ (fun _ => ?_)
theorem posternlaw02_InsnLists.mono : ∀ a0 k, LeO (posternlaw02_InsnLists.f k a0) (posternlaw02_InsnLists.f (k + 1) a0) := by
  intro a0 k
  obtain ⟨ih0, ih1, ih2⟩ := posternlaw02_InsnLists.mono_l k
  unfold posternlaw02_InsnLists.f
  repeat' first
      | (with_reducible exact ih0 _ _ _ _ _ _)
      | (with_reducible exact ih1 _ _ _)
      | (with_reducible exact ih2 _ _ _ _)
      | (with_reducible exact insn_Decode.mono _ _)
      | (with_reducible exact insn_Encode.mono _ _)
      | (with_reducible exact posternlaw02_first.mono _)
      | (with_reducible exact posternref02_Bytes.mono _ _ _ _ _ _)
      | (with_reducible exact LeO.refl _)
      | (with_reducible exact LeO.none _)
      | (with_reducible refine LeO.ite ?_ ?_)
      | (with_reducible refine LeO.bind ?_ (fun _ => ?_))
      | exact ih0 _ _ _ _ _ _
      | exact ih1 _ _ _
      | exact ih2 _ _ _ _
      | exact insn_Decode.mono _ _
      | exact insn_Encode.mono _ _
      | exact posternlaw02_first.mono _
      | exact posternref02_Bytes.mono _ _ _ _ _ _
      | exact LeO.none _
      | refine LeO.ite ?_ ?_
      | refine LeO.bind ?_ (fun _ => ?_)
set_option maxHeartbeats 8000000 in
set_option maxRecDepth 100000 in
theorem posternlaw02_InsnLists.calls (k : Nat) (A0 : Option Addr) (c0 : Nat) (l0 : List (S24)) (r : Bool) (w : World) (hr_ : Aside0 (r = true)) (hr0 : Kd.C k24 w A0 l0.length l0) (hc0 : l0.length ≤ c0) (h : posternlaw02_InsnLists.f k l0 = some r) :
    Calls Try.prog 6 #[.slice A0 l0.length c0] w fun e w' => e = .returned (.bool r) ∧ Below w.heap.size w w' := by
  have hu24 := Try.underlying24
  have HR0 := Aside0.mk hr0
  have HC0 := Aside0.mk hc0
  clear hr0 hc0
  have HB := Aside0.mk (Below.refl w.heap.size w)
  have H : ((posternlaw02_first.f k).bind fun t176 => (if t176 = true then ((some (([] : List (S24)) : List (S24))).bind fun y177 => (if y177.length + l0.length < 11728124029610 then ((some (y177 ++ l0 : List (S24))).bind fun y180 => ((insn_Encode.f k l0).bind fun t183 => (posternlaw02_InsnLists.l0 k l0 y180 t183 ([] : List Int) (y180.length : Int) 0))) else (none))) else (some false))) = some r := h
  clear h
  replace H := Option.bind_eq_some_iff.mp H
  obtain ⟨t176, A20, H⟩ := H
  replace H : (if t176 = true then ((some (([] : List (S24)) : List (S24))).bind fun y177 => (if y177.length + l0.length < 11728124029610 then ((some (y177 ++ l0 : List (S24))).bind fun y180 => ((insn_Encode.f k l0).bind fun t183 => (posternlaw02_InsnLists.l0 k l0 y180 t183 ([] : List Int) (y180.length : Int) 0))) else (none))) else (some false)) = some r := H
  have A2 := Aside0.mk A20
  clear A20
  by_cases c3 : t176 = true
  · subst c3
    have H1 : ((some (([] : List (S24)) : List (S24))).bind fun y177 => (if y177.length + l0.length < 11728124029610 then ((some (y177 ++ l0 : List (S24))).bind fun y180 => ((insn_Encode.f k l0).bind fun t183 => (posternlaw02_InsnLists.l0 k l0 y180 t183 ([] : List Int) (y180.length : Int) 0))) else (none))) = some r := by rw [if_pos rfl] at H; exact H
    clear H
    have H := H1
    clear H1
    obtain ⟨y177, hy177⟩ : ∃ y_ : List (S24), y_ = (([] : List (S24))) := ⟨_, rfl⟩
    replace H : (if y177.length + l0.length < 11728124029610 then ((some (y177 ++ l0 : List (S24))).bind fun y180 => ((insn_Encode.f k l0).bind fun t183 => (posternlaw02_InsnLists.l0 k l0 y180 t183 ([] : List Int) (y180.length : Int) 0))) else (none)) = some r := by first | (rw [hy177]; with_reducible exact H) | (have H2_ := (Option.bind_some _ _).symm.trans H; rw [hy177]; with_reducible exact H2_) | (have H2_ := (Option.bind_some _ _).symm.trans H; with_reducible exact H2_) | with_reducible exact H | (rw [hy177]; exact H) | exact H
    have Ny177 := Aside0.mk hy177
    clear hy177
    by_cases c4 : y177.length + l0.length < 11728124029610
    · rw [if_pos c4] at H
      have LMc4 := Aside0.mk c4
      clear c4
      obtain ⟨y180, hy180⟩ : ∃ y_ : List (S24), y_ = (y177 ++ l0) := ⟨_, rfl⟩
      replace H : ((insn_Encode.f k l0).bind fun t183 => (posternlaw02_InsnLists.l0 k l0 y180 t183 ([] : List Int) (y180.length : Int) 0)) = some r := by first | (rw [hy180]; with_reducible exact H) | (have H2_ := (Option.bind_some _ _).symm.trans H; rw [hy180]; with_reducible exact H2_) | (have H2_ := (Option.bind_some _ _).symm.trans H; with_reducible exact H2_) | with_reducible exact H | (rw [hy180]; exact H) | exact H
      have Ny180 := Aside0.mk hy180
      clear hy180
      replace H := Option.bind_eq_some_iff.mp H
      obtain ⟨t183, A50, H⟩ := H
      replace H : (posternlaw02_InsnLists.l0 k l0 y180 t183 ([] : List Int) (y180.length : Int) 0) = some r := H
      have A5 := Aside0.mk A50
      clear A50
      have H' := Aside0.mk H
      clear H
      go_enter Try.func6, Try.ntmps6
      go_wp2_with (first | (go_at_call 13; (with_reducible refine (posternlaw02_first.calls k  true _ A2.out).mono ?_); rintro e w6 ⟨rfl, hb⟩; have n0_ := Aside0.mk (below_step (by repeat (first | (with_reducible first | exact HB.out | apply below_alloc | apply pw_below_drewN | apply below_drew1) | exact HB.out)) hb); clear HB; have HB := n0_; clear n0_; (try clear hb); (try clear hb2); (try clear hk); (try clear hi)) | ((with_reducible refine gate_dst (N := 13) rfl ?_); (try (refine gate_guard (by rfl) ?_; dsimp only)); refine Kd.R_lit k24 _ 24 ?hg (N := 13) ?hd (xs := ([] : List (S24))) (inner := []) (ok := fun _ => True) (okp := fun _ => True) ?hr ?hp (fun _ hk => hk) trivial (Below.refl _ _) (Nat.le_refl _) (by simp) ?_; (case hd => rfl); (case hg => rfl); (case hr => first | (go_simp; done) | (go_simp; rfl)); (case hp => exact (Reps.none _ _)); intro v178 w7 ho8 hb hg_ hnew_; clear hg_ hnew_; (first | rw [← Ny177.out] at ho8 | (simp only [Int.reduceToNat] at ho8; rw [← Ny177.out] at ho8)); have n0_ := Aside0.mk (Kd.R_lower ho8 (below_size (by repeat (first | (with_reducible first | exact HB.out | apply below_alloc | apply pw_below_drewN | apply below_drew1) | exact HB.out)))); have n1_ := Aside0.mk (below_step (by repeat (first | (with_reducible first | exact HB.out | apply below_alloc | apply pw_below_drewN | apply below_drew1) | exact HB.out)) hb); clear HB; have HO179 := n0_; have HB := n1_; clear n0_ n1_; clear hb ho8) | ((with_reducible refine gate_builtin (b := .append) (xs := #[.tmp 13, .tmp 14]) rfl ?_); (try (refine gate_guard (by rfl) ?_; dsimp only)); at_builtin; refine Kd.R_append_rows k24 (w0 := w) w.heap.size rfl (.tmp 13) (.tmp 14) 27 24 (.agg #[(.int .u8 0), (.int .u8 0), (.int .u8 0), (.int .i16 0), (.int .i32 0)]) 12 rfl Try.underlying27 info24 rfl (by decide) (by omega) v178 y177 l0 _ _ _ (fun _ => True) (fun _ => False) rfl rfl ?aO ?aR (fun _ _ h => h) (fun _ h => h.elim) ?aF ?aB ?aS ?aL ?_; (case aR => repeat (first | exact (Kd.C_below HR0.out HB.out) | (with_reducible refine Kd.C_alloc ?_ _) | (with_reducible refine Kd.C_drewN ?_ _) | (with_reducible refine Kd.C_drew ?_))); (case aB => exact (by repeat (first | (with_reducible first | exact HB.out | apply below_alloc | apply pw_below_drewN | apply below_drew1) | exact HB.out))); (case aF => exact (fun _ _ => trivial)); (case aO => exact (by (with_reducible repeat (first | apply Kd.R_alloc | apply Kd.R_drewN | apply Kd.R_drew)); exact HO179.out)); (case aS => exact (below_size (by repeat (first | (with_reducible first | exact HB.out | apply below_alloc | apply pw_below_drewN | apply below_drew1) | exact HB.out)))); (case aL => have := LMc4.out; omega); intro v181 w9 ho hb hg hat; rw [← Ny180.out] at ho; have n0_ := Aside0.mk (hb); have n1_ := Aside0.mk (ho); clear HB; clear HO179; have HB := n0_; have HO182 := n1_; clear n0_ n1_; clear ho hb hg hat) | (go_at_call 27; (with_reducible refine (insn_Encode.calls k _ _ l0 t183 _ ?side1 ?side2 A5.out).mono ?_); (case side1 => repeat (first | exact (Kd.C_below HR0.out HB.out) | (with_reducible refine Kd.C_alloc ?_ _) | (with_reducible refine Kd.C_drewN ?_ _) | (with_reducible refine Kd.C_drew ?_))); (case side2 => exact HC0.out); rintro e w10 ⟨v184, rfl, ho0, hb⟩; have n0_ := Aside0.mk (Kd.R_below (by (with_reducible repeat (first | apply Kd.R_alloc | apply Kd.R_drewN | apply Kd.R_drew)); exact HO182.out) hb); have n1_ := Aside0.mk (Kd.R_lower ho0 (below_size (by repeat (first | (with_reducible first | exact HB.out | apply below_alloc | apply pw_below_drewN | apply below_drew1) | exact HB.out)))); have n2_ := Aside0.mk (below_step (by repeat (first | (with_reducible first | exact HB.out | apply below_alloc | apply pw_below_drewN | apply below_drew1) | exact HB.out)) hb); clear HO182; clear HB; have HO182 := n0_; have HO185 := n1_; have HB := n2_; clear n0_ n1_ n2_; (try clear hb); (try clear hb2); (try clear hk); (try clear hi); (try clear ho0); obtain ⟨Ao11, co11, eo11⟩ := Kd.R_slice HO182.out; subst eo11))
      repeat (go_quiet (first | (go_at_call 13; (with_reducible refine (posternlaw02_first.calls k  true _ A2.out).mono ?_); rintro e w6 ⟨rfl, hb⟩; have n0_ := Aside0.mk (below_step (by repeat (first | (with_reducible first | exact HB.out | apply below_alloc | apply pw_below_drewN | apply below_drew1) | exact HB.out)) hb); clear HB; have HB := n0_; clear n0_; (try clear hb); (try clear hb2); (try clear hk); (try clear hi)) | ((with_reducible refine gate_dst (N := 13) rfl ?_); (try (refine gate_guard (by rfl) ?_; dsimp only)); refine Kd.R_lit k24 _ 24 ?hg (N := 13) ?hd (xs := ([] : List (S24))) (inner := []) (ok := fun _ => True) (okp := fun _ => True) ?hr ?hp (fun _ hk => hk) trivial (Below.refl _ _) (Nat.le_refl _) (by simp) ?_; (case hd => rfl); (case hg => rfl); (case hr => first | (go_simp; done) | (go_simp; rfl)); (case hp => exact (Reps.none _ _)); intro v178 w7 ho8 hb hg_ hnew_; clear hg_ hnew_; (first | rw [← Ny177.out] at ho8 | (simp only [Int.reduceToNat] at ho8; rw [← Ny177.out] at ho8)); have n0_ := Aside0.mk (Kd.R_lower ho8 (below_size (by repeat (first | (with_reducible first | exact HB.out | apply below_alloc | apply pw_below_drewN | apply below_drew1) | exact HB.out)))); have n1_ := Aside0.mk (below_step (by repeat (first | (with_reducible first | exact HB.out | apply below_alloc | apply pw_below_drewN | apply below_drew1) | exact HB.out)) hb); clear HB; have HO179 := n0_; have HB := n1_; clear n0_ n1_; clear hb ho8) | ((with_reducible refine gate_builtin (b := .append) (xs := #[.tmp 13, .tmp 14]) rfl ?_); (try (refine gate_guard (by rfl) ?_; dsimp only)); at_builtin; refine Kd.R_append_rows k24 (w0 := w) w.heap.size rfl (.tmp 13) (.tmp 14) 27 24 (.agg #[(.int .u8 0), (.int .u8 0), (.int .u8 0), (.int .i16 0), (.int .i32 0)]) 12 rfl Try.underlying27 info24 rfl (by decide) (by omega) v178 y177 l0 _ _ _ (fun _ => True) (fun _ => False) rfl rfl ?aO ?aR (fun _ _ h => h) (fun _ h => h.elim) ?aF ?aB ?aS ?aL ?_; (case aR => repeat (first | exact (Kd.C_below HR0.out HB.out) | (with_reducible refine Kd.C_alloc ?_ _) | (with_reducible refine Kd.C_drewN ?_ _) | (with_reducible refine Kd.C_drew ?_))); (case aB => exact (by repeat (first | (with_reducible first | exact HB.out | apply below_alloc | apply pw_below_drewN | apply below_drew1) | exact HB.out))); (case aF => exact (fun _ _ => trivial)); (case aO => exact (by (with_reducible repeat (first | apply Kd.R_alloc | apply Kd.R_drewN | apply Kd.R_drew)); exact HO179.out)); (case aS => exact (below_size (by repeat (first | (with_reducible first | exact HB.out | apply below_alloc | apply pw_below_drewN | apply below_drew1) | exact HB.out)))); (case aL => have := LMc4.out; omega); intro v181 w9 ho hb hg hat; rw [← Ny180.out] at ho; have n0_ := Aside0.mk (hb); have n1_ := Aside0.mk (ho); clear HB; clear HO179; have HB := n0_; have HO182 := n1_; clear n0_ n1_; clear ho hb hg hat) | (go_at_call 27; (with_reducible refine (insn_Encode.calls k _ _ l0 t183 _ ?side1 ?side2 A5.out).mono ?_); (case side1 => repeat (first | exact (Kd.C_below HR0.out HB.out) | (with_reducible refine Kd.C_alloc ?_ _) | (with_reducible refine Kd.C_drewN ?_ _) | (with_reducible refine Kd.C_drew ?_))); (case side2 => exact HC0.out); rintro e w10 ⟨v184, rfl, ho0, hb⟩; have n0_ := Aside0.mk (Kd.R_below (by (with_reducible repeat (first | apply Kd.R_alloc | apply Kd.R_drewN | apply Kd.R_drew)); exact HO182.out) hb); have n1_ := Aside0.mk (Kd.R_lower ho0 (below_size (by repeat (first | (with_reducible first | exact HB.out | apply below_alloc | apply pw_below_drewN | apply below_drew1) | exact HB.out)))); have n2_ := Aside0.mk (below_step (by repeat (first | (with_reducible first | exact HB.out | apply below_alloc | apply pw_below_drewN | apply below_drew1) | exact HB.out)) hb); clear HO182; clear HB; have HO182 := n0_; have HO185 := n1_; have HB := n2_; clear n0_ n1_ n2_; (try clear hb); (try clear hb2); (try clear hk); (try clear hi); (try clear ho0); obtain ⟨Ao11, co11, eo11⟩ := Kd.R_slice HO182.out; subst eo11)); try go_wp2_with (first | (go_at_call 13; (with_reducible refine (posternlaw02_first.calls k  true _ A2.out).mono ?_); rintro e w6 ⟨rfl, hb⟩; have n0_ := Aside0.mk (below_step (by repeat (first | (with_reducible first | exact HB.out | apply below_alloc | apply pw_below_drewN | apply below_drew1) | exact HB.out)) hb); clear HB; have HB := n0_; clear n0_; (try clear hb); (try clear hb2); (try clear hk); (try clear hi)) | ((with_reducible refine gate_dst (N := 13) rfl ?_); (try (refine gate_guard (by rfl) ?_; dsimp only)); refine Kd.R_lit k24 _ 24 ?hg (N := 13) ?hd (xs := ([] : List (S24))) (inner := []) (ok := fun _ => True) (okp := fun _ => True) ?hr ?hp (fun _ hk => hk) trivial (Below.refl _ _) (Nat.le_refl _) (by simp) ?_; (case hd => rfl); (case hg => rfl); (case hr => first | (go_simp; done) | (go_simp; rfl)); (case hp => exact (Reps.none _ _)); intro v178 w7 ho8 hb hg_ hnew_; clear hg_ hnew_; (first | rw [← Ny177.out] at ho8 | (simp only [Int.reduceToNat] at ho8; rw [← Ny177.out] at ho8)); have n0_ := Aside0.mk (Kd.R_lower ho8 (below_size (by repeat (first | (with_reducible first | exact HB.out | apply below_alloc | apply pw_below_drewN | apply below_drew1) | exact HB.out)))); have n1_ := Aside0.mk (below_step (by repeat (first | (with_reducible first | exact HB.out | apply below_alloc | apply pw_below_drewN | apply below_drew1) | exact HB.out)) hb); clear HB; have HO179 := n0_; have HB := n1_; clear n0_ n1_; clear hb ho8) | ((with_reducible refine gate_builtin (b := .append) (xs := #[.tmp 13, .tmp 14]) rfl ?_); (try (refine gate_guard (by rfl) ?_; dsimp only)); at_builtin; refine Kd.R_append_rows k24 (w0 := w) w.heap.size rfl (.tmp 13) (.tmp 14) 27 24 (.agg #[(.int .u8 0), (.int .u8 0), (.int .u8 0), (.int .i16 0), (.int .i32 0)]) 12 rfl Try.underlying27 info24 rfl (by decide) (by omega) v178 y177 l0 _ _ _ (fun _ => True) (fun _ => False) rfl rfl ?aO ?aR (fun _ _ h => h) (fun _ h => h.elim) ?aF ?aB ?aS ?aL ?_; (case aR => repeat (first | exact (Kd.C_below HR0.out HB.out) | (with_reducible refine Kd.C_alloc ?_ _) | (with_reducible refine Kd.C_drewN ?_ _) | (with_reducible refine Kd.C_drew ?_))); (case aB => exact (by repeat (first | (with_reducible first | exact HB.out | apply below_alloc | apply pw_below_drewN | apply below_drew1) | exact HB.out))); (case aF => exact (fun _ _ => trivial)); (case aO => exact (by (with_reducible repeat (first | apply Kd.R_alloc | apply Kd.R_drewN | apply Kd.R_drew)); exact HO179.out)); (case aS => exact (below_size (by repeat (first | (with_reducible first | exact HB.out | apply below_alloc | apply pw_below_drewN | apply below_drew1) | exact HB.out)))); (case aL => have := LMc4.out; omega); intro v181 w9 ho hb hg hat; rw [← Ny180.out] at ho; have n0_ := Aside0.mk (hb); have n1_ := Aside0.mk (ho); clear HB; clear HO179; have HB := n0_; have HO182 := n1_; clear n0_ n1_; clear ho hb hg hat) | (go_at_call 27; (with_reducible refine (insn_Encode.calls k _ _ l0 t183 _ ?side1 ?side2 A5.out).mono ?_); (case side1 => repeat (first | exact (Kd.C_below HR0.out HB.out) | (with_reducible refine Kd.C_alloc ?_ _) | (with_reducible refine Kd.C_drewN ?_ _) | (with_reducible refine Kd.C_drew ?_))); (case side2 => exact HC0.out); rintro e w10 ⟨v184, rfl, ho0, hb⟩; have n0_ := Aside0.mk (Kd.R_below (by (with_reducible repeat (first | apply Kd.R_alloc | apply Kd.R_drewN | apply Kd.R_drew)); exact HO182.out) hb); have n1_ := Aside0.mk (Kd.R_lower ho0 (below_size (by repeat (first | (with_reducible first | exact HB.out | apply below_alloc | apply pw_below_drewN | apply below_drew1) | exact HB.out)))); have n2_ := Aside0.mk (below_step (by repeat (first | (with_reducible first | exact HB.out | apply below_alloc | apply pw_below_drewN | apply below_drew1) | exact HB.out)) hb); clear HO182; clear HB; have HO182 := n0_; have HO185 := n1_; have HB := n2_; clear n0_ n1_ n2_; (try clear hb); (try clear hb2); (try clear hk); (try clear hi); (try clear ho0); obtain ⟨Ao11, co11, eo11⟩ := Kd.R_slice HO182.out; subst eo11)))
      go_loopg [5, 20] k (fun kq v5 v20 w' => ∃ (x5_1 : List Int) (x20_1 : Int), v20 = .int .i64 x20_1 ∧ Aside0 (posternlaw02_InsnLists.l0 kq l0 y180 t183 x5_1 (y180.length : Int) x20_1 = some r) ∧ Aside0 (kq ≤ k) ∧ Aside0 (Kd.R k24 24 w' w.heap.size (fun _ => True) (.slice Ao11 y180.length co11) y180) ∧ Aside0 (Kd.R (Kd.int .u8) 5 w' w.heap.size (fun k_ => some k_ ≠ (v5 : Value).ownBlock) v184 t183) ∧ Aside0 (Kd.R (Kd.int .u8) 5 w' w.heap.size (fun k_ => some k_ ≠ (v184 : Value).ownBlock) v5 x5_1) ∧ Aside0 (Below w.heap.size w w'))
      case atStart => exact ⟨(([] : List Int)), (0), (by first | rfl | (simp; done) | (simp [*]; done)), H', ⟨Nat.le_refl _⟩, ⟨by (with_reducible repeat (first | apply Kd.R_alloc | apply Kd.R_drewN | apply Kd.R_drew)); exact HO182.out⟩, ⟨by (with_reducible repeat (first | apply Kd.R_alloc | apply Kd.R_drewN | apply Kd.R_drew)); exact Kd.R_mono HO185.out (fun _ hk => (by simp [Value.ownBlock]))⟩, ⟨by first | exact Kd.R_nil _ _ _ _ _ | exact Kd.N_nil _ _ _ _ _ | exact Kd.V_nil _ _ _ _ _ | exact Kd.Q_nil _ _ _ _ _ | exact Kd.S_nil _ _ _ _ _⟩, ⟨by repeat (first | (with_reducible first | exact HB.out | apply below_alloc | apply pw_below_drewN | apply below_drew1) | exact HB.out)⟩⟩
      case round =>
        clear H'
        try clear p2
        try clear c3
        try clear c4
        try clear c6
        obtain ⟨x5_1, x20_1, rfl, HA, HK1, HO_3, HO_4, HO_5, HB⟩ := hrel
        cases gk with
        | zero => exact absurd HA.out (by simp [posternlaw02_InsnLists.l0])
        | succ k1 =>
          have H := HA.out
          clear HA
          simp only [posternlaw02_InsnLists.l0] at H
          by_cases c12 : x20_1 < (y180.length : Int)
          · rw [if_pos c12] at H
            have c12b0 : decide (x20_1 < (y180.length : Int)) = true := decide_eq_true c12
            clear c12
            by_cases c13 : 0 ≤ x20_1
            · rw [if_pos c13] at H
              have c13b0 : decide (0 ≤ x20_1) = true := decide_eq_true c13
              clear c13
              by_cases c14 : x20_1 < (y180.length : Int)
              · rw [if_pos c14] at H
                have c14b0 : decide (x20_1 < (y180.length : Int)) = true := decide_eq_true c14
                clear c14
                replace H := Option.bind_eq_some_iff.mp H
                obtain ⟨t187, A150, H⟩ := H
                replace H : (if x5_1.length + t187.length < 140737488355328 then (if x20_1 < (l0.length : Int) then (if (!(((rd_T24 l0 x20_1).f0) == ((rd_T24 y180 x20_1).f0)) || (!(((rd_T24 l0 x20_1).f1) == ((rd_T24 y180 x20_1).f1)) || (!(((rd_T24 l0 x20_1).f2) == ((rd_T24 y180 x20_1).f2)) || (!(((rd_T24 l0 x20_1).f3) == ((rd_T24 y180 x20_1).f3)) || (!(((rd_T24 l0 x20_1).f4) == ((rd_T24 y180 x20_1).f4))))))) = true then (some false) else (posternlaw02_InsnLists.l0 k1 l0 y180 t183 (x5_1 ++ t187) (y180.length : Int) (wrap64 (x20_1 + 1)))) else (none)) else (none)) = some r := H
                have A15 := Aside0.mk A150
                clear A150
                by_cases c16 : x5_1.length + t187.length < 140737488355328
                · rw [if_pos c16] at H
                  have LMc16 := Aside0.mk c16
                  clear c16
                  obtain ⟨y190, hy190⟩ : ∃ y_ : List Int, y_ = (x5_1 ++ t187) := ⟨_, rfl⟩
                  replace H : (if x20_1 < (l0.length : Int) then (if (!(((rd_T24 l0 x20_1).f0) == ((rd_T24 y180 x20_1).f0)) || (!(((rd_T24 l0 x20_1).f1) == ((rd_T24 y180 x20_1).f1)) || (!(((rd_T24 l0 x20_1).f2) == ((rd_T24 y180 x20_1).f2)) || (!(((rd_T24 l0 x20_1).f3) == ((rd_T24 y180 x20_1).f3)) || (!(((rd_T24 l0 x20_1).f4) == ((rd_T24 y180 x20_1).f4))))))) = true then (some false) else (posternlaw02_InsnLists.l0 k1 l0 y180 t183 y190 (y180.length : Int) (wrap64 (x20_1 + 1)))) else (none)) = some r := by first | (rw [hy190]; with_reducible exact H) | (have H2_ := (Option.bind_some _ _).symm.trans H; rw [hy190]; with_reducible exact H2_) | (have H2_ := (Option.bind_some _ _).symm.trans H; with_reducible exact H2_) | with_reducible exact H | (rw [hy190]; exact H) | exact H
                  have Ny190 := Aside0.mk hy190
                  clear hy190
                  by_cases c17 : x20_1 < (l0.length : Int)
                  · rw [if_pos c17] at H
                    have c17b0 : decide (x20_1 < (l0.length : Int)) = true := decide_eq_true c17
                    clear c17
                    by_cases c18 : (!(((rd_T24 l0 x20_1).f0) == ((rd_T24 y180 x20_1).f0)) || (!(((rd_T24 l0 x20_1).f1) == ((rd_T24 y180 x20_1).f1)) || (!(((rd_T24 l0 x20_1).f2) == ((rd_T24 y180 x20_1).f2)) || (!(((rd_T24 l0 x20_1).f3) == ((rd_T24 y180 x20_1).f3)) || (!(((rd_T24 l0 x20_1).f4) == ((rd_T24 y180 x20_1).f4))))))) = true
                    · rw [if_pos c18] at H
                      have c18b0 : (!(((rd_T24 l0 x20_1).f0) == ((rd_T24 y180 x20_1).f0)) || (!(((rd_T24 l0 x20_1).f1) == ((rd_T24 y180 x20_1).f1)) || (!(((rd_T24 l0 x20_1).f2) == ((rd_T24 y180 x20_1).f2)) || (!(((rd_T24 l0 x20_1).f3) == ((rd_T24 y180 x20_1).f3)) || (!(((rd_T24 l0 x20_1).f4) == ((rd_T24 y180 x20_1).f4))))))) = true := c18
                      clear c18
                      exact absurd (H.trans (congrArg some hr_.out)) (by simp)
                    · rw [if_neg c18] at H
                      have c18b0 : (!(((rd_T24 l0 x20_1).f0) == ((rd_T24 y180 x20_1).f0)) || (!(((rd_T24 l0 x20_1).f1) == ((rd_T24 y180 x20_1).f1)) || (!(((rd_T24 l0 x20_1).f2) == ((rd_T24 y180 x20_1).f2)) || (!(((rd_T24 l0 x20_1).f3) == ((rd_T24 y180 x20_1).f3)) || (!(((rd_T24 l0 x20_1).f4) == ((rd_T24 y180 x20_1).f4))))))) = false := by simpa using c18
                      clear c18
                      have H' := Aside0.mk H
                      clear H
                      have p186 : 0 ≤ (x20_1 : Int) := of_decide_eq_true (by first | (with_reducible assumption) | assumption)
                      have q186 : x20_1 < (y180.length : Int) := of_decide_eq_true (by first | (with_reducible assumption) | assumption)
                      obtain ⟨ad186, e186, hx186_0, hx186_1, hx186_2, hx186_3, hx186_4⟩ := at_T24 (Kd.R_reads' HO_3.out).2.2 x20_1 p186 q186
                      cases e186
                      replace p186 := eq_true p186
                      replace q186 := eq_true q186
                      go_wp2_with (first | (go_at_call 28; (with_reducible refine (posternref02_Bytes.calls k1 ((rd_T24 y180 x20_1).f0) ((rd_T24 y180 x20_1).f1) ((rd_T24 y180 x20_1).f2) ((rd_T24 y180 x20_1).f3) ((rd_T24 y180 x20_1).f4) t187 _ A15.out).mono ?_); rintro e w19 ⟨v188, rfl, ho0, hb⟩; have n0_ := Aside0.mk (Kd.R_below (by (with_reducible repeat (first | apply Kd.R_alloc | apply Kd.R_drewN | apply Kd.R_drew)); exact HO_3.out) hb); have n1_ := Aside0.mk (Kd.R_elder' (by (with_reducible repeat (first | apply Kd.R_alloc | apply Kd.R_drewN | apply Kd.R_drew)); exact HO_4.out) (Kd.R_base ho0) hb); have n2_ := Aside0.mk (Kd.R_elder' (by (with_reducible repeat (first | apply Kd.R_alloc | apply Kd.R_drewN | apply Kd.R_drew)); exact HO_5.out) (Kd.R_base ho0) hb); have n3_ := Aside0.mk (Kd.R_lower (Kd.R_new' (Kd.R_new' ho0 (Kd.R_lt (by (with_reducible repeat (first | apply Kd.R_alloc | apply Kd.R_drewN | apply Kd.R_drew)); exact HO_4.out))) (Kd.R_lt (by (with_reducible repeat (first | apply Kd.R_alloc | apply Kd.R_drewN | apply Kd.R_drew)); exact HO_5.out))) (below_size (by repeat (first | (with_reducible first | exact HB.out | apply below_alloc | apply pw_below_drewN | apply below_drew1) | exact HB.out)))); have n4_ := Aside0.mk (below_step (by repeat (first | (with_reducible first | exact HB.out | apply below_alloc | apply pw_below_drewN | apply below_drew1) | exact HB.out)) hb); clear HO_3; clear HO_4; clear HO_5; clear HB; have HO_3 := n0_; have HO_4 := n1_; have HO_5 := n2_; have HO189 := n3_; have HB := n4_; clear n0_ n1_ n2_ n3_ n4_; (try clear hb); (try clear hb2); (try clear hk); (try clear hi); (try clear ho0); obtain ⟨Ao21, co21, eo21⟩ := Kd.R_slice HO189.out; subst eo21) | ((with_reducible refine gate_builtin (b := .append) (xs := #[.tmp 23, .tmp 28]) rfl ?_); (try (refine gate_guard (by rfl) ?_; dsimp only)); at_builtin; refine Kd.R_append_rows (Kd.int .u8) (w0 := w) w.heap.size rfl (.tmp 23) (.tmp 28) 35 5 (.int .u8 0) 1 rfl Try.underlying35 info5 rfl (by decide) (by omega) u5 x5_1 t187 _ _ _ (fun k_ => some k_ ≠ (v184 : Value).ownBlock ∧ some k_ ≠ (.slice Ao21 t187.length co21 : Value).ownBlock) (fun _ => False) rfl rfl ?aO ?aR (fun _ _ h => h) (fun _ h => h.elim) ?aF ?aB ?aS ?aL ?_; (case aR => repeat (first | exact (Kd.R_reads' HO189.out).2.2 | (with_reducible refine Kd.C_alloc ?_ _) | (with_reducible refine Kd.C_drewN ?_ _) | (with_reducible refine Kd.C_drew ?_))); (case aB => exact (by repeat (first | (with_reducible first | exact HB.out | apply below_alloc | apply pw_below_drewN | apply below_drew1) | exact HB.out))); (case aF => exact (fun k_ hk => ⟨Kd.fresh' (Kd.R_lt (by (with_reducible repeat (first | apply Kd.R_alloc | apply Kd.R_drewN | apply Kd.R_drew)); exact HO_4.out)) k_ hk, Kd.fresh' (Kd.R_lt (by (with_reducible repeat (first | apply Kd.R_alloc | apply Kd.R_drewN | apply Kd.R_drew)); exact HO189.out)) k_ hk⟩)); (case aO => exact (by (with_reducible repeat (first | apply Kd.R_alloc | apply Kd.R_drewN | apply Kd.R_drew)); exact HO_5.out)); (case aS => exact (below_size (by repeat (first | (with_reducible first | exact HB.out | apply below_alloc | apply pw_below_drewN | apply below_drew1) | exact HB.out)))); (case aL => have := LMc16.out; omega); intro v191 w20 ho hb hg hat; rw [← Ny190.out] at ho; have n0_ := Aside0.mk (Kd.R_over' (by (with_reducible repeat (first | apply Kd.R_alloc | apply Kd.R_drewN | apply Kd.R_drew)); exact HO_3.out) (Kd.R_typed (by (with_reducible repeat (first | apply Kd.R_alloc | apply Kd.R_drewN | apply Kd.R_drew)); exact HO_5.out)) (by decide) hg); have n1_ := Aside0.mk (Kd.R_after (ok := (fun k_ => some k_ ≠ (.slice Ao21 t187.length co21 : Value).ownBlock)) (by (with_reducible repeat (first | apply Kd.R_alloc | apply Kd.R_drewN | apply Kd.R_drew)); exact Kd.R_mono HO_4.out (fun _ hk => ⟨hk.2, hk.1⟩)) hg hat); have n2_ := Aside0.mk (Kd.R_after (ok := (fun k_ => some k_ ≠ (v184 : Value).ownBlock)) (by (with_reducible repeat (first | apply Kd.R_alloc | apply Kd.R_drewN | apply Kd.R_drew)); exact Kd.R_mono HO189.out (fun _ hk => ⟨hk.1.2, hk.2⟩)) hg hat); have n3_ := Aside0.mk (hb); have n4_ := Aside0.mk (ho); clear HO_3; clear HO_4; clear HO189; clear HB; clear HO_5; have HO_3 := n0_; have HO_4 := n1_; have HO189 := n2_; have HB := n3_; have HO192 := n4_; clear n0_ n1_ n2_ n3_ n4_; clear ho hb hg hat; have p193 : 0 ≤ (x20_1 : Int) := of_decide_eq_true (by first | (with_reducible assumption) | assumption); have q193 : x20_1 < (l0.length : Int) := of_decide_eq_true (by first | (with_reducible assumption) | assumption); obtain ⟨ad193, e193, hx193_0, hx193_1, hx193_2, hx193_3, hx193_4⟩ := at_T24 HR0.out x20_1 p193 q193; cases e193; replace hx193_0 := (HB.out.cell (World.block_lt_of_cell? w _ hx193_0)).trans hx193_0; replace hx193_1 := (HB.out.cell (World.block_lt_of_cell? w _ hx193_1)).trans hx193_1; replace hx193_2 := (HB.out.cell (World.block_lt_of_cell? w _ hx193_2)).trans hx193_2; replace hx193_3 := (HB.out.cell (World.block_lt_of_cell? w _ hx193_3)).trans hx193_3; replace hx193_4 := (HB.out.cell (World.block_lt_of_cell? w _ hx193_4)).trans hx193_4; replace p193 := eq_true p193; replace q193 := eq_true q193; have p194 : 0 ≤ (x20_1 : Int) := of_decide_eq_true (by first | (with_reducible assumption) | assumption); have q194 : x20_1 < (y180.length : Int) := of_decide_eq_true (by first | (with_reducible assumption) | assumption); obtain ⟨ad194, e194, hx194_0, hx194_1, hx194_2, hx194_3, hx194_4⟩ := at_T24 (Kd.R_reads' HO_3.out).2.2 x20_1 p194 q194; obtain rfl : ad186 = ad194 := (by injection e194); replace p194 := eq_true p194; replace q194 := eq_true q194))
                      repeat (go_quiet (first | (go_at_call 28; (with_reducible refine (posternref02_Bytes.calls k1 ((rd_T24 y180 x20_1).f0) ((rd_T24 y180 x20_1).f1) ((rd_T24 y180 x20_1).f2) ((rd_T24 y180 x20_1).f3) ((rd_T24 y180 x20_1).f4) t187 _ A15.out).mono ?_); rintro e w19 ⟨v188, rfl, ho0, hb⟩; have n0_ := Aside0.mk (Kd.R_below (by (with_reducible repeat (first | apply Kd.R_alloc | apply Kd.R_drewN | apply Kd.R_drew)); exact HO_3.out) hb); have n1_ := Aside0.mk (Kd.R_elder' (by (with_reducible repeat (first | apply Kd.R_alloc | apply Kd.R_drewN | apply Kd.R_drew)); exact HO_4.out) (Kd.R_base ho0) hb); have n2_ := Aside0.mk (Kd.R_elder' (by (with_reducible repeat (first | apply Kd.R_alloc | apply Kd.R_drewN | apply Kd.R_drew)); exact HO_5.out) (Kd.R_base ho0) hb); have n3_ := Aside0.mk (Kd.R_lower (Kd.R_new' (Kd.R_new' ho0 (Kd.R_lt (by (with_reducible repeat (first | apply Kd.R_alloc | apply Kd.R_drewN | apply Kd.R_drew)); exact HO_4.out))) (Kd.R_lt (by (with_reducible repeat (first | apply Kd.R_alloc | apply Kd.R_drewN | apply Kd.R_drew)); exact HO_5.out))) (below_size (by repeat (first | (with_reducible first | exact HB.out | apply below_alloc | apply pw_below_drewN | apply below_drew1) | exact HB.out)))); have n4_ := Aside0.mk (below_step (by repeat (first | (with_reducible first | exact HB.out | apply below_alloc | apply pw_below_drewN | apply below_drew1) | exact HB.out)) hb); clear HO_3; clear HO_4; clear HO_5; clear HB; have HO_3 := n0_; have HO_4 := n1_; have HO_5 := n2_; have HO189 := n3_; have HB := n4_; clear n0_ n1_ n2_ n3_ n4_; (try clear hb); (try clear hb2); (try clear hk); (try clear hi); (try clear ho0); obtain ⟨Ao21, co21, eo21⟩ := Kd.R_slice HO189.out; subst eo21) | ((with_reducible refine gate_builtin (b := .append) (xs := #[.tmp 23, .tmp 28]) rfl ?_); (try (refine gate_guard (by rfl) ?_; dsimp only)); at_builtin; refine Kd.R_append_rows (Kd.int .u8) (w0 := w) w.heap.size rfl (.tmp 23) (.tmp 28) 35 5 (.int .u8 0) 1 rfl Try.underlying35 info5 rfl (by decide) (by omega) u5 x5_1 t187 _ _ _ (fun k_ => some k_ ≠ (v184 : Value).ownBlock ∧ some k_ ≠ (.slice Ao21 t187.length co21 : Value).ownBlock) (fun _ => False) rfl rfl ?aO ?aR (fun _ _ h => h) (fun _ h => h.elim) ?aF ?aB ?aS ?aL ?_; (case aR => repeat (first | exact (Kd.R_reads' HO189.out).2.2 | (with_reducible refine Kd.C_alloc ?_ _) | (with_reducible refine Kd.C_drewN ?_ _) | (with_reducible refine Kd.C_drew ?_))); (case aB => exact (by repeat (first | (with_reducible first | exact HB.out | apply below_alloc | apply pw_below_drewN | apply below_drew1) | exact HB.out))); (case aF => exact (fun k_ hk => ⟨Kd.fresh' (Kd.R_lt (by (with_reducible repeat (first | apply Kd.R_alloc | apply Kd.R_drewN | apply Kd.R_drew)); exact HO_4.out)) k_ hk, Kd.fresh' (Kd.R_lt (by (with_reducible repeat (first | apply Kd.R_alloc | apply Kd.R_drewN | apply Kd.R_drew)); exact HO189.out)) k_ hk⟩)); (case aO => exact (by (with_reducible repeat (first | apply Kd.R_alloc | apply Kd.R_drewN | apply Kd.R_drew)); exact HO_5.out)); (case aS => exact (below_size (by repeat (first | (with_reducible first | exact HB.out | apply below_alloc | apply pw_below_drewN | apply below_drew1) | exact HB.out)))); (case aL => have := LMc16.out; omega); intro v191 w20 ho hb hg hat; rw [← Ny190.out] at ho; have n0_ := Aside0.mk (Kd.R_over' (by (with_reducible repeat (first | apply Kd.R_alloc | apply Kd.R_drewN | apply Kd.R_drew)); exact HO_3.out) (Kd.R_typed (by (with_reducible repeat (first | apply Kd.R_alloc | apply Kd.R_drewN | apply Kd.R_drew)); exact HO_5.out)) (by decide) hg); have n1_ := Aside0.mk (Kd.R_after (ok := (fun k_ => some k_ ≠ (.slice Ao21 t187.length co21 : Value).ownBlock)) (by (with_reducible repeat (first | apply Kd.R_alloc | apply Kd.R_drewN | apply Kd.R_drew)); exact Kd.R_mono HO_4.out (fun _ hk => ⟨hk.2, hk.1⟩)) hg hat); have n2_ := Aside0.mk (Kd.R_after (ok := (fun k_ => some k_ ≠ (v184 : Value).ownBlock)) (by (with_reducible repeat (first | apply Kd.R_alloc | apply Kd.R_drewN | apply Kd.R_drew)); exact Kd.R_mono HO189.out (fun _ hk => ⟨hk.1.2, hk.2⟩)) hg hat); have n3_ := Aside0.mk (hb); have n4_ := Aside0.mk (ho); clear HO_3; clear HO_4; clear HO189; clear HB; clear HO_5; have HO_3 := n0_; have HO_4 := n1_; have HO189 := n2_; have HB := n3_; have HO192 := n4_; clear n0_ n1_ n2_ n3_ n4_; clear ho hb hg hat; have p193 : 0 ≤ (x20_1 : Int) := of_decide_eq_true (by first | (with_reducible assumption) | assumption); have q193 : x20_1 < (l0.length : Int) := of_decide_eq_true (by first | (with_reducible assumption) | assumption); obtain ⟨ad193, e193, hx193_0, hx193_1, hx193_2, hx193_3, hx193_4⟩ := at_T24 HR0.out x20_1 p193 q193; cases e193; replace hx193_0 := (HB.out.cell (World.block_lt_of_cell? w _ hx193_0)).trans hx193_0; replace hx193_1 := (HB.out.cell (World.block_lt_of_cell? w _ hx193_1)).trans hx193_1; replace hx193_2 := (HB.out.cell (World.block_lt_of_cell? w _ hx193_2)).trans hx193_2; replace hx193_3 := (HB.out.cell (World.block_lt_of_cell? w _ hx193_3)).trans hx193_3; replace hx193_4 := (HB.out.cell (World.block_lt_of_cell? w _ hx193_4)).trans hx193_4; replace p193 := eq_true p193; replace q193 := eq_true q193; have p194 : 0 ≤ (x20_1 : Int) := of_decide_eq_true (by first | (with_reducible assumption) | assumption); have q194 : x20_1 < (y180.length : Int) := of_decide_eq_true (by first | (with_reducible assumption) | assumption); obtain ⟨ad194, e194, hx194_0, hx194_1, hx194_2, hx194_3, hx194_4⟩ := at_T24 (Kd.R_reads' HO_3.out).2.2 x20_1 p194 q194; obtain rfl : ad186 = ad194 := (by injection e194); replace p194 := eq_true p194; replace q194 := eq_true q194)); try go_wp2_with (first | (go_at_call 28; (with_reducible refine (posternref02_Bytes.calls k1 ((rd_T24 y180 x20_1).f0) ((rd_T24 y180 x20_1).f1) ((rd_T24 y180 x20_1).f2) ((rd_T24 y180 x20_1).f3) ((rd_T24 y180 x20_1).f4) t187 _ A15.out).mono ?_); rintro e w19 ⟨v188, rfl, ho0, hb⟩; have n0_ := Aside0.mk (Kd.R_below (by (with_reducible repeat (first | apply Kd.R_alloc | apply Kd.R_drewN | apply Kd.R_drew)); exact HO_3.out) hb); have n1_ := Aside0.mk (Kd.R_elder' (by (with_reducible repeat (first | apply Kd.R_alloc | apply Kd.R_drewN | apply Kd.R_drew)); exact HO_4.out) (Kd.R_base ho0) hb); have n2_ := Aside0.mk (Kd.R_elder' (by (with_reducible repeat (first | apply Kd.R_alloc | apply Kd.R_drewN | apply Kd.R_drew)); exact HO_5.out) (Kd.R_base ho0) hb); have n3_ := Aside0.mk (Kd.R_lower (Kd.R_new' (Kd.R_new' ho0 (Kd.R_lt (by (with_reducible repeat (first | apply Kd.R_alloc | apply Kd.R_drewN | apply Kd.R_drew)); exact HO_4.out))) (Kd.R_lt (by (with_reducible repeat (first | apply Kd.R_alloc | apply Kd.R_drewN | apply Kd.R_drew)); exact HO_5.out))) (below_size (by repeat (first | (with_reducible first | exact HB.out | apply below_alloc | apply pw_below_drewN | apply below_drew1) | exact HB.out)))); have n4_ := Aside0.mk (below_step (by repeat (first | (with_reducible first | exact HB.out | apply below_alloc | apply pw_below_drewN | apply below_drew1) | exact HB.out)) hb); clear HO_3; clear HO_4; clear HO_5; clear HB; have HO_3 := n0_; have HO_4 := n1_; have HO_5 := n2_; have HO189 := n3_; have HB := n4_; clear n0_ n1_ n2_ n3_ n4_; (try clear hb); (try clear hb2); (try clear hk); (try clear hi); (try clear ho0); obtain ⟨Ao21, co21, eo21⟩ := Kd.R_slice HO189.out; subst eo21) | ((with_reducible refine gate_builtin (b := .append) (xs := #[.tmp 23, .tmp 28]) rfl ?_); (try (refine gate_guard (by rfl) ?_; dsimp only)); at_builtin; refine Kd.R_append_rows (Kd.int .u8) (w0 := w) w.heap.size rfl (.tmp 23) (.tmp 28) 35 5 (.int .u8 0) 1 rfl Try.underlying35 info5 rfl (by decide) (by omega) u5 x5_1 t187 _ _ _ (fun k_ => some k_ ≠ (v184 : Value).ownBlock ∧ some k_ ≠ (.slice Ao21 t187.length co21 : Value).ownBlock) (fun _ => False) rfl rfl ?aO ?aR (fun _ _ h => h) (fun _ h => h.elim) ?aF ?aB ?aS ?aL ?_; (case aR => repeat (first | exact (Kd.R_reads' HO189.out).2.2 | (with_reducible refine Kd.C_alloc ?_ _) | (with_reducible refine Kd.C_drewN ?_ _) | (with_reducible refine Kd.C_drew ?_))); (case aB => exact (by repeat (first | (with_reducible first | exact HB.out | apply below_alloc | apply pw_below_drewN | apply below_drew1) | exact HB.out))); (case aF => exact (fun k_ hk => ⟨Kd.fresh' (Kd.R_lt (by (with_reducible repeat (first | apply Kd.R_alloc | apply Kd.R_drewN | apply Kd.R_drew)); exact HO_4.out)) k_ hk, Kd.fresh' (Kd.R_lt (by (with_reducible repeat (first | apply Kd.R_alloc | apply Kd.R_drewN | apply Kd.R_drew)); exact HO189.out)) k_ hk⟩)); (case aO => exact (by (with_reducible repeat (first | apply Kd.R_alloc | apply Kd.R_drewN | apply Kd.R_drew)); exact HO_5.out)); (case aS => exact (below_size (by repeat (first | (with_reducible first | exact HB.out | apply below_alloc | apply pw_below_drewN | apply below_drew1) | exact HB.out)))); (case aL => have := LMc16.out; omega); intro v191 w20 ho hb hg hat; rw [← Ny190.out] at ho; have n0_ := Aside0.mk (Kd.R_over' (by (with_reducible repeat (first | apply Kd.R_alloc | apply Kd.R_drewN | apply Kd.R_drew)); exact HO_3.out) (Kd.R_typed (by (with_reducible repeat (first | apply Kd.R_alloc | apply Kd.R_drewN | apply Kd.R_drew)); exact HO_5.out)) (by decide) hg); have n1_ := Aside0.mk (Kd.R_after (ok := (fun k_ => some k_ ≠ (.slice Ao21 t187.length co21 : Value).ownBlock)) (by (with_reducible repeat (first | apply Kd.R_alloc | apply Kd.R_drewN | apply Kd.R_drew)); exact Kd.R_mono HO_4.out (fun _ hk => ⟨hk.2, hk.1⟩)) hg hat); have n2_ := Aside0.mk (Kd.R_after (ok := (fun k_ => some k_ ≠ (v184 : Value).ownBlock)) (by (with_reducible repeat (first | apply Kd.R_alloc | apply Kd.R_drewN | apply Kd.R_drew)); exact Kd.R_mono HO189.out (fun _ hk => ⟨hk.1.2, hk.2⟩)) hg hat); have n3_ := Aside0.mk (hb); have n4_ := Aside0.mk (ho); clear HO_3; clear HO_4; clear HO189; clear HB; clear HO_5; have HO_3 := n0_; have HO_4 := n1_; have HO189 := n2_; have HB := n3_; have HO192 := n4_; clear n0_ n1_ n2_ n3_ n4_; clear ho hb hg hat; have p193 : 0 ≤ (x20_1 : Int) := of_decide_eq_true (by first | (with_reducible assumption) | assumption); have q193 : x20_1 < (l0.length : Int) := of_decide_eq_true (by first | (with_reducible assumption) | assumption); obtain ⟨ad193, e193, hx193_0, hx193_1, hx193_2, hx193_3, hx193_4⟩ := at_T24 HR0.out x20_1 p193 q193; cases e193; replace hx193_0 := (HB.out.cell (World.block_lt_of_cell? w _ hx193_0)).trans hx193_0; replace hx193_1 := (HB.out.cell (World.block_lt_of_cell? w _ hx193_1)).trans hx193_1; replace hx193_2 := (HB.out.cell (World.block_lt_of_cell? w _ hx193_2)).trans hx193_2; replace hx193_3 := (HB.out.cell (World.block_lt_of_cell? w _ hx193_3)).trans hx193_3; replace hx193_4 := (HB.out.cell (World.block_lt_of_cell? w _ hx193_4)).trans hx193_4; replace p193 := eq_true p193; replace q193 := eq_true q193; have p194 : 0 ≤ (x20_1 : Int) := of_decide_eq_true (by first | (with_reducible assumption) | assumption); have q194 : x20_1 < (y180.length : Int) := of_decide_eq_true (by first | (with_reducible assumption) | assumption); obtain ⟨ad194, e194, hx194_0, hx194_1, hx194_2, hx194_3, hx194_4⟩ := at_T24 (Kd.R_reads' HO_3.out).2.2 x20_1 p194 q194; obtain rfl : ad186 = ad194 := (by injection e194); replace p194 := eq_true p194; replace q194 := eq_true q194)))
                      go_roundg k1
                      case measure => have := HK1.out; omega
                      case rel => exact ⟨(y190), (wrap64 (x20_1 + 1)), (by first | rfl | (simp; done) | (simp [*]; done)), H', ⟨by have := HK1.out; omega⟩, ⟨by (with_reducible repeat (first | apply Kd.R_alloc | apply Kd.R_drewN | apply Kd.R_drew)); exact HO_3.out⟩, ⟨by (with_reducible repeat (first | apply Kd.R_alloc | apply Kd.R_drewN | apply Kd.R_drew)); exact Kd.R_mono HO_4.out (fun _ hk => hk.2)⟩, ⟨by (with_reducible repeat (first | apply Kd.R_alloc | apply Kd.R_drewN | apply Kd.R_drew)); exact Kd.R_mono HO192.out (fun _ hk => hk.1)⟩, ⟨by repeat (first | (with_reducible first | exact HB.out | apply below_alloc | apply pw_below_drewN | apply below_drew1) | exact HB.out)⟩⟩
                  · rw [if_neg c17] at H
                    exact absurd H (by simp)
                · rw [if_neg c16] at H
                  exact absurd H (by simp)
              · rw [if_neg c14] at H
                exact absurd H (by simp)
            · rw [if_neg c13] at H
              exact absurd H (by simp)
          · rw [if_neg c12] at H
            have c12b0 : decide (x20_1 < (y180.length : Int)) = false := decide_eq_false c12
            clear c12
            replace H := Option.bind_eq_some_iff.mp H
            obtain ⟨⟨t195, t198⟩, A220, H⟩ := H
            replace H : (if (strOfNums t183).toList = (strOfNums x5_1).toList then (if t198 = 0 then (posternlaw02_InsnLists.j1 k1 y180 t195 ((t195.length : Int) != (l0.length : Int))) else (posternlaw02_InsnLists.j1 k1 y180 t195 true)) else (posternlaw02_InsnLists.j1 k1 y180 t195 true)) = some r := H
            have A22 := Aside0.mk A220
            clear A220
            have HC23 := Aside0.mk H
            clear H
            obtain ⟨Ao24, co24, eo24⟩ := Kd.R_slice HO_4.out
            subst eo24
            go_upto_region 14 with (first | (go_at_call 25; (with_reducible refine (insn_Decode.calls k1 (fun k_ => some k_ = (.slice Ao24 t183.length co24 : Value).ownBlock) _ _ t183 t195 t198 _ ?side1 A22.out).mono ?_); (case side1 => exact Kd.R_V (Kd.R_tight rfl (Kd.R_apart' (HO_4.out) (Kd.R_typed HO_3.out) (by decide)))); rintro e w25 ⟨v196, rfl, ho0, hb⟩; have n0_ := Aside0.mk (Kd.R_elder' (by (with_reducible repeat (first | apply Kd.R_alloc | apply Kd.R_drewN | apply Kd.R_drew)); exact HO_3.out) (Kd.R_base ho0) hb); have n1_ := Aside0.mk (Kd.R_below (by (with_reducible repeat (first | apply Kd.R_alloc | apply Kd.R_drewN | apply Kd.R_drew)); exact HO_4.out) hb); have n2_ := Aside0.mk (Kd.R_below (by (with_reducible repeat (first | apply Kd.R_alloc | apply Kd.R_drewN | apply Kd.R_drew)); exact HO_5.out) hb); have n3_ := Aside0.mk (Kd.R_lower (Kd.R_new' (Kd.R_mono (ok' := fun k_ => True) ho0 (fun _ hk_ => trivial)) (Kd.R_lt (by (with_reducible repeat (first | apply Kd.R_alloc | apply Kd.R_drewN | apply Kd.R_drew)); exact HO_3.out))) (below_size (by repeat (first | (with_reducible first | exact HB.out | apply below_alloc | apply pw_below_drewN | apply below_drew1) | exact HB.out)))); have n4_ := Aside0.mk (below_step (by repeat (first | (with_reducible first | exact HB.out | apply below_alloc | apply pw_below_drewN | apply below_drew1) | exact HB.out)) hb); clear HO_3; clear HO_4; clear HO_5; clear HB; have HO_3 := n0_; have HO_4 := n1_; have HO_5 := n2_; have HO197 := n3_; have HB := n4_; clear n0_ n1_ n2_ n3_ n4_; (try clear hb); (try clear hb2); (try clear hk); (try clear hi); (try clear ho0)))
            repeat (go_quiet (first | (go_at_call 25; (with_reducible refine (insn_Decode.calls k1 (fun k_ => some k_ = (.slice Ao24 t183.length co24 : Value).ownBlock) _ _ t183 t195 t198 _ ?side1 A22.out).mono ?_); (case side1 => exact Kd.R_V (Kd.R_tight rfl (Kd.R_apart' (HO_4.out) (Kd.R_typed HO_3.out) (by decide)))); rintro e w25 ⟨v196, rfl, ho0, hb⟩; have n0_ := Aside0.mk (Kd.R_elder' (by (with_reducible repeat (first | apply Kd.R_alloc | apply Kd.R_drewN | apply Kd.R_drew)); exact HO_3.out) (Kd.R_base ho0) hb); have n1_ := Aside0.mk (Kd.R_below (by (with_reducible repeat (first | apply Kd.R_alloc | apply Kd.R_drewN | apply Kd.R_drew)); exact HO_4.out) hb); have n2_ := Aside0.mk (Kd.R_below (by (with_reducible repeat (first | apply Kd.R_alloc | apply Kd.R_drewN | apply Kd.R_drew)); exact HO_5.out) hb); have n3_ := Aside0.mk (Kd.R_lower (Kd.R_new' (Kd.R_mono (ok' := fun k_ => True) ho0 (fun _ hk_ => trivial)) (Kd.R_lt (by (with_reducible repeat (first | apply Kd.R_alloc | apply Kd.R_drewN | apply Kd.R_drew)); exact HO_3.out))) (below_size (by repeat (first | (with_reducible first | exact HB.out | apply below_alloc | apply pw_below_drewN | apply below_drew1) | exact HB.out)))); have n4_ := Aside0.mk (below_step (by repeat (first | (with_reducible first | exact HB.out | apply below_alloc | apply pw_below_drewN | apply below_drew1) | exact HB.out)) hb); clear HO_3; clear HO_4; clear HO_5; clear HB; have HO_3 := n0_; have HO_4 := n1_; have HO_5 := n2_; have HO197 := n3_; have HB := n4_; clear n0_ n1_ n2_ n3_ n4_; (try clear hb); (try clear hb2); (try clear hk); (try clear hi); (try clear ho0))); go_upto_region 14 with (first | (go_at_call 25; (with_reducible refine (insn_Decode.calls k1 (fun k_ => some k_ = (.slice Ao24 t183.length co24 : Value).ownBlock) _ _ t183 t195 t198 _ ?side1 A22.out).mono ?_); (case side1 => exact Kd.R_V (Kd.R_tight rfl (Kd.R_apart' (HO_4.out) (Kd.R_typed HO_3.out) (by decide)))); rintro e w25 ⟨v196, rfl, ho0, hb⟩; have n0_ := Aside0.mk (Kd.R_elder' (by (with_reducible repeat (first | apply Kd.R_alloc | apply Kd.R_drewN | apply Kd.R_drew)); exact HO_3.out) (Kd.R_base ho0) hb); have n1_ := Aside0.mk (Kd.R_below (by (with_reducible repeat (first | apply Kd.R_alloc | apply Kd.R_drewN | apply Kd.R_drew)); exact HO_4.out) hb); have n2_ := Aside0.mk (Kd.R_below (by (with_reducible repeat (first | apply Kd.R_alloc | apply Kd.R_drewN | apply Kd.R_drew)); exact HO_5.out) hb); have n3_ := Aside0.mk (Kd.R_lower (Kd.R_new' (Kd.R_mono (ok' := fun k_ => True) ho0 (fun _ hk_ => trivial)) (Kd.R_lt (by (with_reducible repeat (first | apply Kd.R_alloc | apply Kd.R_drewN | apply Kd.R_drew)); exact HO_3.out))) (below_size (by repeat (first | (with_reducible first | exact HB.out | apply below_alloc | apply pw_below_drewN | apply below_drew1) | exact HB.out)))); have n4_ := Aside0.mk (below_step (by repeat (first | (with_reducible first | exact HB.out | apply below_alloc | apply pw_below_drewN | apply below_drew1) | exact HB.out)) hb); clear HO_3; clear HO_4; clear HO_5; clear HB; have HO_3 := n0_; have HO_4 := n1_; have HO_5 := n2_; have HO197 := n3_; have HB := n4_; clear n0_ n1_ n2_ n3_ n4_; (try clear hb); (try clear hb2); (try clear hk); (try clear hi); (try clear ho0))))
            (try simp only [Act.put, List.setIfInBounds_toArray, List.set_cons_zero, List.set_cons_succ])
            go_cut [60] (fun v60 wc => ∃ (kq : Nat) (x60_22 : Bool), v60 = .bool x60_22 ∧ Aside0 (posternlaw02_InsnLists.j1 kq y180 t195 x60_22 = some r) ∧ Aside0 (kq ≤ k1) ∧ Aside0 (Kd.R k24 24 wc w.heap.size (fun k_ => some k_ ≠ (v196 : Value).ownBlock) (.slice Ao11 y180.length co11) y180) ∧ Aside0 (Kd.R k24 24 wc w.heap.size (fun k_ => some k_ ≠ ((.slice Ao11 y180.length co11) : Value).ownBlock) v196 t195) ∧ Aside0 (Below w.heap.size w wc))
            case first =>
              have H := HC23.out
              clear HC23
              by_cases c26 : (strOfNums t183).toList = (strOfNums x5_1).toList
              · rw [if_pos c26] at H
                have c26b0 : ((strOfNums t183).toList == (strOfNums x5_1).toList) = true := beq_iff_eq.mpr c26
                have c26b1 : ((strOfNums t183).toList != (strOfNums x5_1).toList) = false := bne_eq_false_iff_eq.mpr c26
                clear c26
                (first | rw [c26b0] | (simp only [i64_w, i32_w]; rw [c26b0]) | skip)
                by_cases c27 : t198 = 0
                · rw [if_pos c27] at H
                  have c27b0 : (t198 == 0) = true := beq_iff_eq.mpr c27
                  have c27b1 : (t198 != 0) = false := bne_eq_false_iff_eq.mpr c27
                  clear c27
                  have H' := Aside0.mk H
                  clear H
                  have hcv28 := own_string (P := Try.prog) Try.underlying35 Try.underlying5 Try.underlying9 (Kd.own_of_R HO_4.out)
                  have hcv29 := own_string (P := Try.prog) Try.underlying35 Try.underlying5 Try.underlying9 (Kd.own_of_R HO_5.out)
                  obtain ⟨Ao30, co30, eo30⟩ := Kd.R_slice HO197.out
                  subst eo30
                  go_wp2
                  repeat (go_quiet (fail); try go_wp2)
                  go_meet
                  case rel => exact ⟨_, (((t195.length : Int) != (l0.length : Int))), (by first | rfl | (simp; done) | (simp [*]; done)), H', ⟨by have := HK1.out; first | omega | exact Nat.le_refl _⟩, ⟨by (with_reducible repeat (first | apply Kd.R_alloc | apply Kd.R_drewN | apply Kd.R_drew)); exact Kd.R_mono HO_3.out (fun _ hk => hk.2)⟩, ⟨by (with_reducible repeat (first | apply Kd.R_alloc | apply Kd.R_drewN | apply Kd.R_drew)); exact Kd.R_mono HO197.out (fun _ hk => hk.2)⟩, ⟨by repeat (first | (with_reducible first | exact HB.out | apply below_alloc | apply pw_below_drewN | apply below_drew1) | exact HB.out)⟩⟩
                · rw [if_neg c27] at H
                  have c27b0 : (t198 == 0) = false := beq_eq_false_iff_ne.mpr c27
                  have c27b1 : (t198 != 0) = true := bne_iff_ne.mpr c27
                  have H' := Aside0.mk H
                  clear H
                  have hcv31 := own_string (P := Try.prog) Try.underlying35 Try.underlying5 Try.underlying9 (Kd.own_of_R HO_4.out)
                  have hcv32 := own_string (P := Try.prog) Try.underlying35 Try.underlying5 Try.underlying9 (Kd.own_of_R HO_5.out)
                  go_wp2
                  repeat (go_quiet (fail); try go_wp2)
                  go_meet
                  case rel => exact ⟨_, (true), (by first | rfl | (simp; done) | (simp [*]; done)), H', ⟨by have := HK1.out; first | omega | exact Nat.le_refl _⟩, ⟨by (with_reducible repeat (first | apply Kd.R_alloc | apply Kd.R_drewN | apply Kd.R_drew)); exact Kd.R_mono HO_3.out (fun _ hk => hk.2)⟩, ⟨by (with_reducible repeat (first | apply Kd.R_alloc | apply Kd.R_drewN | apply Kd.R_drew)); exact Kd.R_mono HO197.out (fun _ hk => hk.2)⟩, ⟨by repeat (first | (with_reducible first | exact HB.out | apply below_alloc | apply pw_below_drewN | apply below_drew1) | exact HB.out)⟩⟩
              · rw [if_neg c26] at H
                have c26b0 : ((strOfNums t183).toList == (strOfNums x5_1).toList) = false := beq_eq_false_iff_ne.mpr c26
                have c26b1 : ((strOfNums t183).toList != (strOfNums x5_1).toList) = true := bne_iff_ne.mpr c26
                (first | rw [c26b0] | (simp only [i64_w, i32_w]; rw [c26b0]) | skip)
                have H' := Aside0.mk H
                clear H
                have hcv33 := own_string (P := Try.prog) Try.underlying35 Try.underlying5 Try.underlying9 (Kd.own_of_R HO_4.out)
                have hcv34 := own_string (P := Try.prog) Try.underlying35 Try.underlying5 Try.underlying9 (Kd.own_of_R HO_5.out)
                go_wp2
                repeat (go_quiet (fail); try go_wp2)
                go_meet
                case rel => exact ⟨_, (true), (by first | rfl | (simp; done) | (simp [*]; done)), H', ⟨by have := HK1.out; first | omega | exact Nat.le_refl _⟩, ⟨by (with_reducible repeat (first | apply Kd.R_alloc | apply Kd.R_drewN | apply Kd.R_drew)); exact Kd.R_mono HO_3.out (fun _ hk => hk.2)⟩, ⟨by (with_reducible repeat (first | apply Kd.R_alloc | apply Kd.R_drewN | apply Kd.R_drew)); exact Kd.R_mono HO197.out (fun _ hk => hk.2)⟩, ⟨by repeat (first | (with_reducible first | exact HB.out | apply below_alloc | apply pw_below_drewN | apply below_drew1) | exact HB.out)⟩⟩
            case rest =>
              clear HC23
              try clear c1
              try clear p1
              try clear q1
              try clear hx1
              try clear c2
              try clear p2
              try clear hcv2
              try clear c3
              try clear hcv3
              try clear c4
              try clear c6
              try clear p6
              try clear c12
              try clear c12b0
              try clear c13
              try clear c13b0
              try clear c14
              try clear c14b0
              try clear c16
              try clear c17
              try clear c17b0
              try clear c18
              try clear c18b0
              try clear p18
              try clear q18
              try clear hx18
              try clear p19
              try clear q19
              try clear hx19
              try clear c26
              try clear c26b0
              try clear c26b1
              try clear c27
              try clear c27b0
              try clear c27b1
              try clear hcv28
              try clear hcv29
              try clear hcv31
              try clear hcv32
              try clear hcv33
              try clear hcv34
              try clear hx186_0
              try clear hx186_1
              try clear hx186_2
              try clear hx186_3
              try clear hx186_4
              try clear hx193_0
              try clear hx193_1
              try clear hx193_2
              try clear hx193_3
              try clear hx193_4
              try clear hx194_0
              try clear hx194_1
              try clear hx194_2
              try clear hx194_3
              try clear hx194_4
              try clear p186
              try clear p193
              try clear p194
              try clear p2
              try clear q186
              try clear q193
              try clear q194
              obtain ⟨kq, x60_22, rfl, HA, HJ22, HO_3, HO_7, HB⟩ := hcut
              cases kq with
              | zero => exact absurd HA.out (by simp [posternlaw02_InsnLists.j1])
              | succ kj22 =>
                have H := HA.out
                clear HA
                simp only [posternlaw02_InsnLists.j1] at H
                by_cases c35 : x60_22 = true
                · subst c35
                  have H1 : (some false) = some r := by rw [if_pos rfl] at H; exact H
                  clear H
                  have H := H1
                  clear H1
                  exact absurd (H.trans (congrArg some hr_.out)) (by simp)
                · replace c35 := Bool.eq_false_iff.mpr c35
                  subst c35
                  have H1 : (posternlaw02_InsnLists.l1 kj22 y180 t195 (t195.length : Int) 0) = some r := by rw [if_neg (show ¬ (false = true) by decide)] at H; exact H
                  clear H
                  have H := H1
                  clear H1
                  have H' := Aside0.mk H
                  clear H
                  obtain ⟨Ao36, co36, eo36⟩ := Kd.R_slice HO_7.out
                  subst eo36
                  go_wp2
                  repeat (go_quiet (fail); try go_wp2)
                  go_loopg [63] kj22 (fun kq v63 w' => ∃ (x63_3 : Int), v63 = .int .i64 x63_3 ∧ Aside0 (posternlaw02_InsnLists.l1 kq y180 t195 (t195.length : Int) x63_3 = some r) ∧ Aside0 (kq ≤ kj22) ∧ Aside0 (Kd.R k24 24 w' w.heap.size (fun k_ => some k_ ≠ ((.slice Ao36 t195.length co36) : Value).ownBlock) (.slice Ao11 y180.length co11) y180) ∧ Aside0 (Kd.R k24 24 w' w.heap.size (fun k_ => some k_ ≠ ((.slice Ao11 y180.length co11) : Value).ownBlock) (.slice Ao36 t195.length co36) t195) ∧ Aside0 (Below w.heap.size w w'))
                  case atStart => exact ⟨(0), (by first | rfl | (simp; done) | (simp [*]; done)), H', ⟨Nat.le_refl _⟩, ⟨by (with_reducible repeat (first | apply Kd.R_alloc | apply Kd.R_drewN | apply Kd.R_drew)); exact HO_3.out⟩, ⟨by (with_reducible repeat (first | apply Kd.R_alloc | apply Kd.R_drewN | apply Kd.R_drew)); exact HO_7.out⟩, ⟨by repeat (first | (with_reducible first | exact HB.out | apply below_alloc | apply pw_below_drewN | apply below_drew1) | exact HB.out)⟩⟩
                  case round =>
                    clear H'
                    try clear c1
                    try clear p1
                    try clear q1
                    try clear hx1
                    try clear c2
                    try clear p2
                    try clear hcv2
                    try clear c3
                    try clear hcv3
                    try clear c4
                    try clear c6
                    try clear p6
                    try clear c12
                    try clear c12b0
                    try clear c13
                    try clear c13b0
                    try clear c14
                    try clear c14b0
                    try clear c16
                    try clear c17
                    try clear c17b0
                    try clear c18
                    try clear c18b0
                    try clear p18
                    try clear q18
                    try clear hx18
                    try clear p19
                    try clear q19
                    try clear hx19
                    try clear c26
                    try clear c26b0
                    try clear c26b1
                    try clear c27
                    try clear c27b0
                    try clear c27b1
                    try clear hcv28
                    try clear hcv29
                    try clear hcv31
                    try clear hcv32
                    try clear hcv33
                    try clear hcv34
                    try clear c35
                    try clear hx186_0
                    try clear hx186_1
                    try clear hx186_2
                    try clear hx186_3
                    try clear hx186_4
                    try clear hx193_0
                    try clear hx193_1
                    try clear hx193_2
                    try clear hx193_3
                    try clear hx193_4
                    try clear hx194_0
                    try clear hx194_1
                    try clear hx194_2
                    try clear hx194_3
                    try clear hx194_4
                    try clear p1
                    try clear p18
                    try clear p186
                    try clear p19
                    try clear p193
                    try clear p194
                    try clear p2
                    try clear p6
                    try clear q1
                    try clear q18
                    try clear q186
                    try clear q19
                    try clear q193
                    try clear q194
                    obtain ⟨x63_3, rfl, HA, HK3, HO_3, HO_7, HB⟩ := hrel
                    cases gk with
                    | zero => exact absurd HA.out (by simp [posternlaw02_InsnLists.l1])
                    | succ k3 =>
                      have H := HA.out
                      clear HA
                      simp only [posternlaw02_InsnLists.l1] at H
                      by_cases c37 : x63_3 < (t195.length : Int)
                      · rw [if_pos c37] at H
                        have c37b0 : decide (x63_3 < (t195.length : Int)) = true := decide_eq_true c37
                        clear c37
                        by_cases c38 : 0 ≤ x63_3
                        · rw [if_pos c38] at H
                          have c38b0 : decide (0 ≤ x63_3) = true := decide_eq_true c38
                          clear c38
                          by_cases c39 : x63_3 < (y180.length : Int)
                          · rw [if_pos c39] at H
                            have c39b0 : decide (x63_3 < (y180.length : Int)) = true := decide_eq_true c39
                            clear c39
                            by_cases c40 : x63_3 < (t195.length : Int)
                            · rw [if_pos c40] at H
                              have c40b0 : decide (x63_3 < (t195.length : Int)) = true := decide_eq_true c40
                              clear c40
                              by_cases c41 : (!(((rd_T24 t195 x63_3).f0) == ((rd_T24 y180 x63_3).f0)) || (!(((rd_T24 t195 x63_3).f1) == (Int.tmod ((rd_T24 y180 x63_3).f1) 16)) || (!(((rd_T24 t195 x63_3).f2) == (Int.tmod ((rd_T24 y180 x63_3).f2) 16)) || (!(((rd_T24 t195 x63_3).f3) == ((rd_T24 y180 x63_3).f3)) || (!(((rd_T24 t195 x63_3).f4) == ((rd_T24 y180 x63_3).f4))))))) = true
                              · rw [if_pos c41] at H
                                have c41b0 : (!(((rd_T24 t195 x63_3).f0) == ((rd_T24 y180 x63_3).f0)) || (!(((rd_T24 t195 x63_3).f1) == (Int.tmod ((rd_T24 y180 x63_3).f1) 16)) || (!(((rd_T24 t195 x63_3).f2) == (Int.tmod ((rd_T24 y180 x63_3).f2) 16)) || (!(((rd_T24 t195 x63_3).f3) == ((rd_T24 y180 x63_3).f3)) || (!(((rd_T24 t195 x63_3).f4) == ((rd_T24 y180 x63_3).f4))))))) = true := c41
                                clear c41
                                exact absurd (H.trans (congrArg some hr_.out)) (by simp)
                              · rw [if_neg c41] at H
                                have c41b0 : (!(((rd_T24 t195 x63_3).f0) == ((rd_T24 y180 x63_3).f0)) || (!(((rd_T24 t195 x63_3).f1) == (Int.tmod ((rd_T24 y180 x63_3).f1) 16)) || (!(((rd_T24 t195 x63_3).f2) == (Int.tmod ((rd_T24 y180 x63_3).f2) 16)) || (!(((rd_T24 t195 x63_3).f3) == ((rd_T24 y180 x63_3).f3)) || (!(((rd_T24 t195 x63_3).f4) == ((rd_T24 y180 x63_3).f4))))))) = false := by simpa using c41
                                clear c41
                                have H' := Aside0.mk H
                                clear H
                                have p199 : 0 ≤ (x63_3 : Int) := of_decide_eq_true (by first | (with_reducible assumption) | assumption)
                                have q199 : x63_3 < (y180.length : Int) := of_decide_eq_true (by first | (with_reducible assumption) | assumption)
                                obtain ⟨ad199, e199, hx199_0, hx199_1, hx199_2, hx199_3, hx199_4⟩ := at_T24 (Kd.R_reads' HO_3.out).2.2 x63_3 p199 q199
                                cases e199
                                replace p199 := eq_true p199
                                replace q199 := eq_true q199
                                have pq_ : 0 ≤ (x63_3 : Int) := of_decide_eq_true (by first | (with_reducible assumption) | assumption)
                                have qq_ : x63_3 < (t195.length : Int) := of_decide_eq_true (by first | (with_reducible assumption) | assumption)
                                obtain ⟨adq_, eq_, hq_0, hq_1, hq_2, hq_3, hq_4⟩ := at_T24 (Kd.R_reads' HO_7.out).2.2 x63_3 pq_ qq_
                                cases eq_
                                replace pq_ := eq_true pq_
                                replace qq_ := eq_true qq_
                                have hqa_0 := fun o => (World.cell?_alloc_lt wr o _ (World.block_lt_of_cell? wr _ hq_0)).trans hq_0
                                have hqa_1 := fun o => (World.cell?_alloc_lt wr o _ (World.block_lt_of_cell? wr _ hq_1)).trans hq_1
                                have hqa_2 := fun o => (World.cell?_alloc_lt wr o _ (World.block_lt_of_cell? wr _ hq_2)).trans hq_2
                                have hqa_3 := fun o => (World.cell?_alloc_lt wr o _ (World.block_lt_of_cell? wr _ hq_3)).trans hq_3
                                have hqa_4 := fun o => (World.cell?_alloc_lt wr o _ (World.block_lt_of_cell? wr _ hq_4)).trans hq_4
                                go_wp2_with (first | ((with_reducible refine gate_dst (N := 10) rfl ?_); (try (refine gate_guard (by rfl) ?_; dsimp only)); refine box_event ?hg (N := 10) ?hd (cs := #[.int .u8 0, .int .u8 0, .int .u8 0, .int .i16 0, .int .i32 0]) (t := 24) ?hr ?_; (case hd => rfl); (case hg => rfl); (case hr => first | (go_simp; done) | (go_simp; rfl)); intro gb200 hg w42 hbox hb; have n0_ := Aside0.mk (Kd.R_below (Kd.R_elderB (by (with_reducible repeat (first | apply Kd.R_alloc | apply Kd.R_drewN | apply Kd.R_drew)); exact HO_3.out) gb200 (Nat.le_of_eq hg.symm)) hb); have n1_ := Aside0.mk (Kd.R_below (Kd.R_elderB (by (with_reducible repeat (first | apply Kd.R_alloc | apply Kd.R_drewN | apply Kd.R_drew)); exact HO_7.out) gb200 (Nat.le_of_eq hg.symm)) hb); have n2_ := Aside0.mk (below_step (by repeat (first | (with_reducible first | exact HB.out | apply below_alloc | apply pw_below_drewN | apply below_drew1) | exact HB.out)) hb); have n3_ := Aside0.mk (hbox); have n4_ := Aside0.mk ((by rw [hg]; exact (below_size (by repeat (first | (with_reducible first | exact HB.out | apply below_alloc | apply pw_below_drewN | apply below_drew1) | exact HB.out))) : w.heap.size ≤ gb200)); have n5_ := Aside0.mk ((by rw [hg]; exact (below_size (by repeat (first | (with_reducible first | exact HB.out | apply below_alloc | apply pw_below_drewN | apply below_drew1) | exact HB.out))) : w.heap.size ≤ gb200)); clear HO_3; clear HO_7; clear HB; have HO_3 := n0_; have HO_7 := n1_; have HB := n2_; have BK200 := n3_; have GW200 := n4_; have GE200 := n5_; clear n0_ n1_ n2_ n3_ n4_ n5_; clear hb hbox hg; have hcz43_0 : w42.cell? ⟨gb200, 0, none⟩ = some (.int .u8 0) := (blk_cell BK200.out 0).trans rfl; have hcz43_1 : w42.cell? ⟨gb200, 1, none⟩ = some (.int .u8 0) := (blk_cell BK200.out 1).trans rfl; have hcz43_2 : w42.cell? ⟨gb200, 2, none⟩ = some (.int .u8 0) := (blk_cell BK200.out 2).trans rfl; have hcz43_3 : w42.cell? ⟨gb200, 3, none⟩ = some (.int .i16 0) := (blk_cell BK200.out 3).trans rfl; have hcz43_4 : w42.cell? ⟨gb200, 4, none⟩ = some (.int .i32 0) := (blk_cell BK200.out 4).trans rfl; have hfz43_0 := blk_frozen BK200.out 0; have hfz43_1 := blk_frozen BK200.out 1; have hfz43_2 := blk_frozen BK200.out 2; have hfz43_3 := blk_frozen BK200.out 3; have hfz43_4 := blk_frozen BK200.out 4; have p201 : 0 ≤ (x63_3 : Int) := of_decide_eq_true (by first | (with_reducible assumption) | assumption); have q201 : x63_3 < (t195.length : Int) := of_decide_eq_true (by first | (with_reducible assumption) | assumption); obtain ⟨ad201, e201, hx201_0, hx201_1, hx201_2, hx201_3, hx201_4⟩ := at_T24 (Kd.R_reads' HO_7.out).2.2 x63_3 p201 q201; cases e201; have hn201_0 : ad201.block ≠ gb200 := Kd.own_blk (Kd.R_ne HO_7.out BK200.out (by decide)); have hn201_1 : ad201.block ≠ gb200 := Kd.own_blk (Kd.R_ne HO_7.out BK200.out (by decide)); have hn201_2 : ad201.block ≠ gb200 := Kd.own_blk (Kd.R_ne HO_7.out BK200.out (by decide)); have hn201_3 : ad201.block ≠ gb200 := Kd.own_blk (Kd.R_ne HO_7.out BK200.out (by decide)); have hn201_4 : ad201.block ≠ gb200 := Kd.own_blk (Kd.R_ne HO_7.out BK200.out (by decide)); have hn201_5 : ad201.block ≠ gb200 := Kd.own_blk (Kd.R_ne HO_7.out BK200.out (by decide)); have hn201_6 : ad201.block ≠ gb200 := Kd.own_blk (Kd.R_ne HO_7.out BK200.out (by decide)); replace hx201_0 := (cell_far (p := ⟨gb200, 0, none⟩) (by first | (rw [add_block]; exact hn201_0) | (show (Addr.add _ _).block ≠ _; rw [add_block]; exact hn201_0) | exact hn201_0) (.int .u8 ((rd_T24 y180 x63_3).f0))).trans hx201_0; replace hx201_1 := (cell_far (p := ⟨gb200, 0, none⟩) (by first | (rw [add_block]; exact hn201_0) | (show (Addr.add _ _).block ≠ _; rw [add_block]; exact hn201_0) | exact hn201_0) (.int .u8 ((rd_T24 y180 x63_3).f0))).trans hx201_1; replace hx201_2 := (cell_far (p := ⟨gb200, 0, none⟩) (by first | (rw [add_block]; exact hn201_0) | (show (Addr.add _ _).block ≠ _; rw [add_block]; exact hn201_0) | exact hn201_0) (.int .u8 ((rd_T24 y180 x63_3).f0))).trans hx201_2; replace hx201_3 := (cell_far (p := ⟨gb200, 0, none⟩) (by first | (rw [add_block]; exact hn201_0) | (show (Addr.add _ _).block ≠ _; rw [add_block]; exact hn201_0) | exact hn201_0) (.int .u8 ((rd_T24 y180 x63_3).f0))).trans hx201_3; replace hx201_4 := (cell_far (p := ⟨gb200, 0, none⟩) (by first | (rw [add_block]; exact hn201_0) | (show (Addr.add _ _).block ≠ _; rw [add_block]; exact hn201_0) | exact hn201_0) (.int .u8 ((rd_T24 y180 x63_3).f0))).trans hx201_4; replace hx201_0 := (cell_far (p := ⟨gb200, 1, none⟩) (by first | (rw [add_block]; exact hn201_1) | (show (Addr.add _ _).block ≠ _; rw [add_block]; exact hn201_1) | exact hn201_1) (.int .u8 ((rd_T24 y180 x63_3).f1))).trans hx201_0; replace hx201_1 := (cell_far (p := ⟨gb200, 1, none⟩) (by first | (rw [add_block]; exact hn201_1) | (show (Addr.add _ _).block ≠ _; rw [add_block]; exact hn201_1) | exact hn201_1) (.int .u8 ((rd_T24 y180 x63_3).f1))).trans hx201_1; replace hx201_2 := (cell_far (p := ⟨gb200, 1, none⟩) (by first | (rw [add_block]; exact hn201_1) | (show (Addr.add _ _).block ≠ _; rw [add_block]; exact hn201_1) | exact hn201_1) (.int .u8 ((rd_T24 y180 x63_3).f1))).trans hx201_2; replace hx201_3 := (cell_far (p := ⟨gb200, 1, none⟩) (by first | (rw [add_block]; exact hn201_1) | (show (Addr.add _ _).block ≠ _; rw [add_block]; exact hn201_1) | exact hn201_1) (.int .u8 ((rd_T24 y180 x63_3).f1))).trans hx201_3; replace hx201_4 := (cell_far (p := ⟨gb200, 1, none⟩) (by first | (rw [add_block]; exact hn201_1) | (show (Addr.add _ _).block ≠ _; rw [add_block]; exact hn201_1) | exact hn201_1) (.int .u8 ((rd_T24 y180 x63_3).f1))).trans hx201_4; replace hx201_0 := (cell_far (p := ⟨gb200, 2, none⟩) (by first | (rw [add_block]; exact hn201_2) | (show (Addr.add _ _).block ≠ _; rw [add_block]; exact hn201_2) | exact hn201_2) (.int .u8 ((rd_T24 y180 x63_3).f2))).trans hx201_0; replace hx201_1 := (cell_far (p := ⟨gb200, 2, none⟩) (by first | (rw [add_block]; exact hn201_2) | (show (Addr.add _ _).block ≠ _; rw [add_block]; exact hn201_2) | exact hn201_2) (.int .u8 ((rd_T24 y180 x63_3).f2))).trans hx201_1; replace hx201_2 := (cell_far (p := ⟨gb200, 2, none⟩) (by first | (rw [add_block]; exact hn201_2) | (show (Addr.add _ _).block ≠ _; rw [add_block]; exact hn201_2) | exact hn201_2) (.int .u8 ((rd_T24 y180 x63_3).f2))).trans hx201_2; replace hx201_3 := (cell_far (p := ⟨gb200, 2, none⟩) (by first | (rw [add_block]; exact hn201_2) | (show (Addr.add _ _).block ≠ _; rw [add_block]; exact hn201_2) | exact hn201_2) (.int .u8 ((rd_T24 y180 x63_3).f2))).trans hx201_3; replace hx201_4 := (cell_far (p := ⟨gb200, 2, none⟩) (by first | (rw [add_block]; exact hn201_2) | (show (Addr.add _ _).block ≠ _; rw [add_block]; exact hn201_2) | exact hn201_2) (.int .u8 ((rd_T24 y180 x63_3).f2))).trans hx201_4; replace hx201_0 := (cell_far (p := ⟨gb200, 3, none⟩) (by first | (rw [add_block]; exact hn201_3) | (show (Addr.add _ _).block ≠ _; rw [add_block]; exact hn201_3) | exact hn201_3) (.int .i16 ((rd_T24 y180 x63_3).f3))).trans hx201_0; replace hx201_1 := (cell_far (p := ⟨gb200, 3, none⟩) (by first | (rw [add_block]; exact hn201_3) | (show (Addr.add _ _).block ≠ _; rw [add_block]; exact hn201_3) | exact hn201_3) (.int .i16 ((rd_T24 y180 x63_3).f3))).trans hx201_1; replace hx201_2 := (cell_far (p := ⟨gb200, 3, none⟩) (by first | (rw [add_block]; exact hn201_3) | (show (Addr.add _ _).block ≠ _; rw [add_block]; exact hn201_3) | exact hn201_3) (.int .i16 ((rd_T24 y180 x63_3).f3))).trans hx201_2; replace hx201_3 := (cell_far (p := ⟨gb200, 3, none⟩) (by first | (rw [add_block]; exact hn201_3) | (show (Addr.add _ _).block ≠ _; rw [add_block]; exact hn201_3) | exact hn201_3) (.int .i16 ((rd_T24 y180 x63_3).f3))).trans hx201_3; replace hx201_4 := (cell_far (p := ⟨gb200, 3, none⟩) (by first | (rw [add_block]; exact hn201_3) | (show (Addr.add _ _).block ≠ _; rw [add_block]; exact hn201_3) | exact hn201_3) (.int .i16 ((rd_T24 y180 x63_3).f3))).trans hx201_4; replace hx201_0 := (cell_far (p := ⟨gb200, 4, none⟩) (by first | (rw [add_block]; exact hn201_4) | (show (Addr.add _ _).block ≠ _; rw [add_block]; exact hn201_4) | exact hn201_4) (.int .i32 ((rd_T24 y180 x63_3).f4))).trans hx201_0; replace hx201_1 := (cell_far (p := ⟨gb200, 4, none⟩) (by first | (rw [add_block]; exact hn201_4) | (show (Addr.add _ _).block ≠ _; rw [add_block]; exact hn201_4) | exact hn201_4) (.int .i32 ((rd_T24 y180 x63_3).f4))).trans hx201_1; replace hx201_2 := (cell_far (p := ⟨gb200, 4, none⟩) (by first | (rw [add_block]; exact hn201_4) | (show (Addr.add _ _).block ≠ _; rw [add_block]; exact hn201_4) | exact hn201_4) (.int .i32 ((rd_T24 y180 x63_3).f4))).trans hx201_2; replace hx201_3 := (cell_far (p := ⟨gb200, 4, none⟩) (by first | (rw [add_block]; exact hn201_4) | (show (Addr.add _ _).block ≠ _; rw [add_block]; exact hn201_4) | exact hn201_4) (.int .i32 ((rd_T24 y180 x63_3).f4))).trans hx201_3; replace hx201_4 := (cell_far (p := ⟨gb200, 4, none⟩) (by first | (rw [add_block]; exact hn201_4) | (show (Addr.add _ _).block ≠ _; rw [add_block]; exact hn201_4) | exact hn201_4) (.int .i32 ((rd_T24 y180 x63_3).f4))).trans hx201_4; replace hx201_0 := (cell_far (p := ⟨gb200, 1, none⟩) (by first | (rw [add_block]; exact hn201_5) | (show (Addr.add _ _).block ≠ _; rw [add_block]; exact hn201_5) | exact hn201_5) (.int .u8 (Int.tmod ((rd_T24 y180 x63_3).f1) 16))).trans hx201_0; replace hx201_1 := (cell_far (p := ⟨gb200, 1, none⟩) (by first | (rw [add_block]; exact hn201_5) | (show (Addr.add _ _).block ≠ _; rw [add_block]; exact hn201_5) | exact hn201_5) (.int .u8 (Int.tmod ((rd_T24 y180 x63_3).f1) 16))).trans hx201_1; replace hx201_2 := (cell_far (p := ⟨gb200, 1, none⟩) (by first | (rw [add_block]; exact hn201_5) | (show (Addr.add _ _).block ≠ _; rw [add_block]; exact hn201_5) | exact hn201_5) (.int .u8 (Int.tmod ((rd_T24 y180 x63_3).f1) 16))).trans hx201_2; replace hx201_3 := (cell_far (p := ⟨gb200, 1, none⟩) (by first | (rw [add_block]; exact hn201_5) | (show (Addr.add _ _).block ≠ _; rw [add_block]; exact hn201_5) | exact hn201_5) (.int .u8 (Int.tmod ((rd_T24 y180 x63_3).f1) 16))).trans hx201_3; replace hx201_4 := (cell_far (p := ⟨gb200, 1, none⟩) (by first | (rw [add_block]; exact hn201_5) | (show (Addr.add _ _).block ≠ _; rw [add_block]; exact hn201_5) | exact hn201_5) (.int .u8 (Int.tmod ((rd_T24 y180 x63_3).f1) 16))).trans hx201_4; replace hx201_0 := (cell_far (p := ⟨gb200, 2, none⟩) (by first | (rw [add_block]; exact hn201_6) | (show (Addr.add _ _).block ≠ _; rw [add_block]; exact hn201_6) | exact hn201_6) (.int .u8 (Int.tmod ((rd_T24 y180 x63_3).f2) 16))).trans hx201_0; replace hx201_1 := (cell_far (p := ⟨gb200, 2, none⟩) (by first | (rw [add_block]; exact hn201_6) | (show (Addr.add _ _).block ≠ _; rw [add_block]; exact hn201_6) | exact hn201_6) (.int .u8 (Int.tmod ((rd_T24 y180 x63_3).f2) 16))).trans hx201_1; replace hx201_2 := (cell_far (p := ⟨gb200, 2, none⟩) (by first | (rw [add_block]; exact hn201_6) | (show (Addr.add _ _).block ≠ _; rw [add_block]; exact hn201_6) | exact hn201_6) (.int .u8 (Int.tmod ((rd_T24 y180 x63_3).f2) 16))).trans hx201_2; replace hx201_3 := (cell_far (p := ⟨gb200, 2, none⟩) (by first | (rw [add_block]; exact hn201_6) | (show (Addr.add _ _).block ≠ _; rw [add_block]; exact hn201_6) | exact hn201_6) (.int .u8 (Int.tmod ((rd_T24 y180 x63_3).f2) 16))).trans hx201_3; replace hx201_4 := (cell_far (p := ⟨gb200, 2, none⟩) (by first | (rw [add_block]; exact hn201_6) | (show (Addr.add _ _).block ≠ _; rw [add_block]; exact hn201_6) | exact hn201_6) (.int .u8 (Int.tmod ((rd_T24 y180 x63_3).f2) 16))).trans hx201_4; (try have hy201_0 := fun (n_ : Nat) => (show (((((((((w42.drewN n_).setCell ⟨gb200, 0, none⟩ (.int .u8 ((rd_T24 y180 x63_3).f0))).setCell ⟨gb200, 1, none⟩ (.int .u8 ((rd_T24 y180 x63_3).f1))).setCell ⟨gb200, 2, none⟩ (.int .u8 ((rd_T24 y180 x63_3).f2))).setCell ⟨gb200, 3, none⟩ (.int .i16 ((rd_T24 y180 x63_3).f3))).setCell ⟨gb200, 4, none⟩ (.int .i32 ((rd_T24 y180 x63_3).f4))).setCell ⟨gb200, 1, none⟩ (.int .u8 (Int.tmod ((rd_T24 y180 x63_3).f1) 16))).setCell ⟨gb200, 2, none⟩ (.int .u8 (Int.tmod ((rd_T24 y180 x63_3).f2) 16)))).cell? _ = some _ from hx201_0)); (try have hy201_1 := fun (n_ : Nat) => (show (((((((((w42.drewN n_).setCell ⟨gb200, 0, none⟩ (.int .u8 ((rd_T24 y180 x63_3).f0))).setCell ⟨gb200, 1, none⟩ (.int .u8 ((rd_T24 y180 x63_3).f1))).setCell ⟨gb200, 2, none⟩ (.int .u8 ((rd_T24 y180 x63_3).f2))).setCell ⟨gb200, 3, none⟩ (.int .i16 ((rd_T24 y180 x63_3).f3))).setCell ⟨gb200, 4, none⟩ (.int .i32 ((rd_T24 y180 x63_3).f4))).setCell ⟨gb200, 1, none⟩ (.int .u8 (Int.tmod ((rd_T24 y180 x63_3).f1) 16))).setCell ⟨gb200, 2, none⟩ (.int .u8 (Int.tmod ((rd_T24 y180 x63_3).f2) 16)))).cell? _ = some _ from hx201_1)); (try have hy201_2 := fun (n_ : Nat) => (show (((((((((w42.drewN n_).setCell ⟨gb200, 0, none⟩ (.int .u8 ((rd_T24 y180 x63_3).f0))).setCell ⟨gb200, 1, none⟩ (.int .u8 ((rd_T24 y180 x63_3).f1))).setCell ⟨gb200, 2, none⟩ (.int .u8 ((rd_T24 y180 x63_3).f2))).setCell ⟨gb200, 3, none⟩ (.int .i16 ((rd_T24 y180 x63_3).f3))).setCell ⟨gb200, 4, none⟩ (.int .i32 ((rd_T24 y180 x63_3).f4))).setCell ⟨gb200, 1, none⟩ (.int .u8 (Int.tmod ((rd_T24 y180 x63_3).f1) 16))).setCell ⟨gb200, 2, none⟩ (.int .u8 (Int.tmod ((rd_T24 y180 x63_3).f2) 16)))).cell? _ = some _ from hx201_2)); (try have hy201_3 := fun (n_ : Nat) => (show (((((((((w42.drewN n_).setCell ⟨gb200, 0, none⟩ (.int .u8 ((rd_T24 y180 x63_3).f0))).setCell ⟨gb200, 1, none⟩ (.int .u8 ((rd_T24 y180 x63_3).f1))).setCell ⟨gb200, 2, none⟩ (.int .u8 ((rd_T24 y180 x63_3).f2))).setCell ⟨gb200, 3, none⟩ (.int .i16 ((rd_T24 y180 x63_3).f3))).setCell ⟨gb200, 4, none⟩ (.int .i32 ((rd_T24 y180 x63_3).f4))).setCell ⟨gb200, 1, none⟩ (.int .u8 (Int.tmod ((rd_T24 y180 x63_3).f1) 16))).setCell ⟨gb200, 2, none⟩ (.int .u8 (Int.tmod ((rd_T24 y180 x63_3).f2) 16)))).cell? _ = some _ from hx201_3)); (try have hy201_4 := fun (n_ : Nat) => (show (((((((((w42.drewN n_).setCell ⟨gb200, 0, none⟩ (.int .u8 ((rd_T24 y180 x63_3).f0))).setCell ⟨gb200, 1, none⟩ (.int .u8 ((rd_T24 y180 x63_3).f1))).setCell ⟨gb200, 2, none⟩ (.int .u8 ((rd_T24 y180 x63_3).f2))).setCell ⟨gb200, 3, none⟩ (.int .i16 ((rd_T24 y180 x63_3).f3))).setCell ⟨gb200, 4, none⟩ (.int .i32 ((rd_T24 y180 x63_3).f4))).setCell ⟨gb200, 1, none⟩ (.int .u8 (Int.tmod ((rd_T24 y180 x63_3).f1) 16))).setCell ⟨gb200, 2, none⟩ (.int .u8 (Int.tmod ((rd_T24 y180 x63_3).f2) 16)))).cell? _ = some _ from hx201_4)); clear hn201_0; clear hn201_1; clear hn201_2; clear hn201_3; clear hn201_4; clear hn201_5; clear hn201_6; replace p201 := eq_true p201; replace q201 := eq_true q201))
                                go_quiet (fail)
                                go_wp2
                                go_roundg k3
                                case measure => have := HK1.out; have := HJ22.out; have := HK3.out; omega
                                case rel => exact ⟨(wrap64 (x63_3 + 1)), (by first | rfl | (simp; done) | (simp [*]; done)), H', ⟨by have := HK1.out; have := HJ22.out; have := HK3.out; omega⟩, ⟨by (with_reducible repeat (first | apply Kd.R_alloc | apply Kd.R_drewN | apply Kd.R_drew)); exact HO_3.out⟩, ⟨by (with_reducible repeat (first | apply Kd.R_alloc | apply Kd.R_drewN | apply Kd.R_drew)); exact HO_7.out⟩, ⟨by repeat (first | (with_reducible first | exact HB.out | apply below_alloc | apply pw_below_drewN | apply below_drew1) | exact HB.out)⟩⟩
                            · rw [if_neg c40] at H
                              exact absurd H (by simp)
                          · rw [if_neg c39] at H
                            exact absurd H (by simp)
                        · rw [if_neg c38] at H
                          exact absurd H (by simp)
                      · rw [if_neg c37] at H
                        have c37b0 : decide (x63_3 < (t195.length : Int)) = false := decide_eq_false c37
                        clear c37
                        obtain rfl := Option.some.inj H
                        go_wp2
                        repeat (go_quiet (fail); try go_wp2)
                        go_ret
                        exact ⟨by first | rfl | (simp [errW_none, errW_some] <;> rfl) | (simp [*, errW_none, errW_some] <;> rfl), by repeat (first | (with_reducible first | exact HB.out | apply below_alloc | apply pw_below_drewN | apply below_drew1) | exact HB.out)⟩
    · rw [if_neg c4] at H
      exact absurd H (by simp)
  · replace c3 := Bool.eq_false_iff.mpr c3
    subst c3
    have H1 : (some false) = some r := by rw [if_neg (show ¬ (false = true) by decide)] at H; exact H
    clear H
    have H := H1
    clear H1
    exact absurd (H.trans (congrArg some hr_.out)) (by simp)

end Go.Proofs.Ytpkgegklpbholaa.PInsnLists
