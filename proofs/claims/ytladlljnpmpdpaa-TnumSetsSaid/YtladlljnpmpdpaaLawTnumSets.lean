/- PROVED HERE: for all tnums a and b and every choice: what a tnum holds, when one lies within another, and what joins and meets hold is as the document says. No condition but the kinds of the numbers. -/
import Derived.Test.YtladlljnpmpdpaaRows
import Derived.Test.YtladlljnpmpdpaaPTnumSetsx
import Derived.Test.YtladlljnpmpdpaaPureTnumSets
import Derived.Test.YtladlljnpmpdpaaOpen
import Derived.WalkKit
import Derived.ProofKit
import Derived.OpenShut
import Derived.ShutString
import Derived.ChangeOld
import Derived.Below
import Derived.Carry
import Derived.SizedLaws
namespace Go.Proofs.Ytladlljnpmpdpaa.tnumSets
open Go.ChangeShapes Go.WideShapes Go.ChangeAt Go.RowKit Go.Proofs.YtladlljnpmpdpaaW.PrintWords Go.Proofs.YtladlljnpmpdpaaW.PrintLast Go.Proofs.Ytladlljnpmpdpaa.Open
open Go.ChangeMaps (open_string shut_string)
set_option linter.unusedVariables false
theorem own : ownKnob Try.prog.godebug = none := by kernel_rfl
theorem laidOut : laidOutB Try.prog = true := by kernel_rfl
set_option maxRecDepth 100000 in
theorem lifted (os : Os) (started : os.Started) (H : Type) (enc : TypeId × Value → H) :
    ReturnsInHanded {} Try.checked os 7 .any (Rows.tnumSetsSpec.pre6 enc Try.prog Try.f7 Rows.tnumSetsRow.domain false) (Rows.tnumSetsSpec.post enc Try.prog Try.f7 false true false false) := by
  refine returnsInHanded_of_change_sized (C := Try.checked) own started (by kernel_rfl) Try.func7
    (ChangeSpec.witness6 (enc := enc) (C := Try.checked) false ⟨#[], #[.agg #[.int .u64 0, .int .u64 0], .agg #[.int .u64 0, .int .u64 0], .int .u64 0], []⟩ 8 (by kernel_rfl) (by kernel_rfl) (by kernel_rfl) (by kernel_rfl)) ?_
  intro W base args ds gs before hval0 hW hcnd hsz0 _
  have hsz : (DataW.weightsEach Try.prog (Try.f7.params.toList ++ Rows.tnumSetsSpec.plain.varTypes Try.prog) (ds ++ gs)).all (· ≤ reachBytes) = true := hsz0
  have hval : ∀ (j : Nat) t v, Try.f7.params[j]? = some t → args[j]? = some v → Value.okWide Try.prog W .any base t v := hval0
  have hW' := hW
  obtain ⟨p, q, hA0, hV, rfl, hfz, hnd⟩ := hW
  have hA : DataW.TrodAll enc Try.prog W 0 (fun _ => true) true Try.f7.params.toList args.toList ds p := hA0
  rw [Try.params7] at hA hval hsz
  obtain ⟨v0, vs0, d0, ds0, p0, q0, hargs, rfl, rfl, h0, r0⟩ := trodAll_cons hA
  obtain ⟨v1, vs1, d1, ds1, p1, q1, rfl, rfl, rfl, h1, r1⟩ := trodAll_cons r0
  obtain ⟨v2, vs2, d2, ds2, p2, q2, rfl, rfl, rfl, h2, r2⟩ := trodAll_cons r1
  obtain ⟨rfl, rfl, rfl⟩ := trodAll_nil r2
  obtain rfl : args = #[v0, v1, v2] := by cases args; simp_all
  obtain ⟨rfl, rfl⟩ := trodVars_none hV
  have k0 := h0
  have lt0 : ∀ x ∈ p0, x.block < W.heap.size := by obtain ⟨m, hm⟩ := k0; exact DataW.trod_lt m _ _ _ hm
  obtain ⟨c0, rfl, hz0⟩ := okWide_agg (by kernel_rfl) (hval 0 24 v0 rfl rfl)
  obtain ⟨fu0, hf0⟩ := h0
  obtain ⟨c0_0, c0_1, rfl⟩ := arr2 (hz0.trans (by kernel_rfl))
  obtain ⟨mg0_0_1_0, yg0_0_1_0, g0_0_1_0⟩ : ∃ m y, DataW.trod enc Try.prog W 0 (fun _ => true) true m 22 [c0_0] = some y := sub_struct (cs := [c0_0, c0_1]) (o := 0) (s := 22) (c := 1) Try.underlying24 hf0 0 _ rfl (by kernel_rfl) rfl
  obtain ⟨a0_0, e0_0, _, w0_0⟩ := DataW.trod_int Try.underlying22 g0_0_1_0
  obtain ⟨mg0_0_1_1, yg0_0_1_1, g0_0_1_1⟩ : ∃ m y, DataW.trod enc Try.prog W 0 (fun _ => true) true m 22 [c0_1] = some y := sub_struct (cs := [c0_0, c0_1]) (o := 1) (s := 22) (c := 1) Try.underlying24 hf0 1 _ rfl (by kernel_rfl) rfl
  obtain ⟨a0_1, e0_1, _, w0_1⟩ := DataW.trod_int Try.underlying22 g0_0_1_1
  obtain rfl := (List.cons.inj e0_0).1
  obtain rfl := (List.cons.inj e0_1).1
  have k1 := h1
  have lt1 : ∀ x ∈ p1, x.block < W.heap.size := by obtain ⟨m, hm⟩ := k1; exact DataW.trod_lt m _ _ _ hm
  obtain ⟨c1, rfl, hz1⟩ := okWide_agg (by kernel_rfl) (hval 1 24 v1 rfl rfl)
  obtain ⟨fu1, hf1⟩ := h1
  obtain ⟨c1_0, c1_1, rfl⟩ := arr2 (hz1.trans (by kernel_rfl))
  obtain ⟨mg1_0_1_0, yg1_0_1_0, g1_0_1_0⟩ : ∃ m y, DataW.trod enc Try.prog W 0 (fun _ => true) true m 22 [c1_0] = some y := sub_struct (cs := [c1_0, c1_1]) (o := 0) (s := 22) (c := 1) Try.underlying24 hf1 0 _ rfl (by kernel_rfl) rfl
  obtain ⟨a1_0, e1_0, _, w1_0⟩ := DataW.trod_int Try.underlying22 g1_0_1_0
  obtain ⟨mg1_0_1_1, yg1_0_1_1, g1_0_1_1⟩ : ∃ m y, DataW.trod enc Try.prog W 0 (fun _ => true) true m 22 [c1_1] = some y := sub_struct (cs := [c1_0, c1_1]) (o := 1) (s := 22) (c := 1) Try.underlying24 hf1 1 _ rfl (by kernel_rfl) rfl
  obtain ⟨a1_1, e1_1, _, w1_1⟩ := DataW.trod_int Try.underlying22 g1_0_1_1
  obtain rfl := (List.cons.inj e1_0).1
  obtain rfl := (List.cons.inj e1_1).1
  obtain ⟨a2, rfl, rfl, rfl, w2⟩ := open_int Try.underlying22 (hval 2 22 v2 rfl rfl) h2
  clear hA0 hval0 hsz0 hsz
  obtain ⟨k, hk⟩ := Pure.TnumSets a0_0 a0_1 a1_0 a1_1 a2 w0_0 w0_1 w1_0 w1_1 w2
  refine (PTnumSets.posternlaw14_TnumSets.calls k a0_0 a0_1 a1_0 a1_1 a2 true W ⟨rfl⟩  hk).mono fun e W' ⟨he, bel⟩ => ?_
  subst he
  exact ⟨_, rfl, _, _, _, [], _, [], hW', trodAll_mk1 (shut_bool Try.underlying4 _), (trodAll_cons_mk (Below.trod laidOut (by kernel_rfl) (of_decide_eq_true (by kernel_rfl)) k0 bel lt0) (trodAll_cons_mk (Below.trod laidOut (by kernel_rfl) (of_decide_eq_true (by kernel_rfl)) k1 bel lt1) (trodAll_cons_mk (shut_int Try.underlying22 w2) trodAll_mk0))), rfl, bel.frame _, fun h => by cases h⟩
theorem over : Rows.tnumSetsRow.holds Try.pinned (OpenSpec.ofChange Rows.tnumSetsSpec) :=
  OpenClaim.holds_of_wide 7 Try.f7 rfl rfl rfl rfl rfl rfl rfl ⟨rfl, rfl, rfl, rfl, rfl⟩ rfl rfl rfl rfl rfl (by kernel_rfl) Try.func7 (by kernel_rfl)
    (of_decide_eq_true (by kernel_rfl)) (by unfold Func.isWrapper; first | (rw [if_pos (by decide +kernel)]; kernel_rfl) | (rw [if_neg (by decide +kernel)]; exact ⟨rfl, rfl⟩))
    (fun os started H enc _ => lifted os started H enc)
theorem proved : Rows.TnumSetsSaid := over
#print axioms proved
end Go.Proofs.Ytladlljnpmpdpaa.tnumSets
namespace Go.Proofs.Ytladlljnpmpdpaa
/-- The row, under a short name, for the claim. -/
theorem tnumSets_holds : Rows.TnumSetsSaid := tnumSets.proved
end Go.Proofs.Ytladlljnpmpdpaa
