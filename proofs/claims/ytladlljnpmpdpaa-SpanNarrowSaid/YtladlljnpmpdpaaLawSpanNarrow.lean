/- PROVED HERE: for every kind, two spans and two choices: narrowing two spans by a condition loses no pair for which it is as it was said to be. No condition but the kinds of the numbers. -/
import Derived.Test.YtladlljnpmpdpaaRows
import Derived.Test.YtladlljnpmpdpaaPSpanNarrowx
import Derived.Test.YtladlljnpmpdpaaPureSpanNarrow
import Derived.Test.YtladlljnpmpdpaaOpen
import Derived.WalkKit
import Derived.ProofKit
import Derived.OpenShut
import Derived.ShutString
import Derived.ChangeOld
import Derived.Below
import Derived.Carry
import Derived.SizedLaws
namespace Go.Proofs.Ytladlljnpmpdpaa.spanNarrow
open Go.ChangeShapes Go.WideShapes Go.ChangeAt Go.RowKit Go.Proofs.YtladlljnpmpdpaaW.PrintWords Go.Proofs.YtladlljnpmpdpaaW.PrintLast Go.Proofs.Ytladlljnpmpdpaa.Open
open Go.ChangeMaps (open_string shut_string)
set_option linter.unusedVariables false
theorem own : ownKnob Try.prog.godebug = none := by kernel_rfl
theorem laidOut : laidOutB Try.prog = true := by kernel_rfl
set_option maxRecDepth 100000 in
theorem lifted (os : Os) (started : os.Started) (H : Type) (enc : TypeId × Value → H) :
    ReturnsInHanded {} Try.checked os 9 .any (Rows.spanNarrowSpec.pre6 enc Try.prog Try.f9 Rows.spanNarrowRow.domain false) (Rows.spanNarrowSpec.post enc Try.prog Try.f9 false true false false) := by
  refine returnsInHanded_of_change_sized (C := Try.checked) own started (by kernel_rfl) Try.func9
    (ChangeSpec.witness6 (enc := enc) (C := Try.checked) false ⟨#[], #[.int .i64 0, .agg #[.int .u64 0, .int .u64 0, .int .u64 0, .int .u64 0], .agg #[.int .u64 0, .int .u64 0]], []⟩ 8 (by kernel_rfl) (by kernel_rfl) (by kernel_rfl) (by kernel_rfl)) ?_
  intro W base args ds gs before hval0 hW hcnd hsz0 _
  have hsz : (DataW.weightsEach Try.prog (Try.f9.params.toList ++ Rows.spanNarrowSpec.plain.varTypes Try.prog) (ds ++ gs)).all (· ≤ reachBytes) = true := hsz0
  have hval : ∀ (j : Nat) t v, Try.f9.params[j]? = some t → args[j]? = some v → Value.okWide Try.prog W .any base t v := hval0
  have hW' := hW
  obtain ⟨p, q, hA0, hV, rfl, hfz, hnd⟩ := hW
  have hA : DataW.TrodAll enc Try.prog W 0 (fun _ => true) true Try.f9.params.toList args.toList ds p := hA0
  rw [Try.params9] at hA hval hsz
  obtain ⟨v0, vs0, d0, ds0, p0, q0, hargs, rfl, rfl, h0, r0⟩ := trodAll_cons hA
  obtain ⟨v1, vs1, d1, ds1, p1, q1, rfl, rfl, rfl, h1, r1⟩ := trodAll_cons r0
  obtain ⟨v2, vs2, d2, ds2, p2, q2, rfl, rfl, rfl, h2, r2⟩ := trodAll_cons r1
  obtain ⟨rfl, rfl, rfl⟩ := trodAll_nil r2
  obtain rfl : args = #[v0, v1, v2] := by cases args; simp_all
  obtain ⟨rfl, rfl⟩ := trodVars_none hV
  obtain ⟨a0, rfl, rfl, rfl, w0⟩ := open_int Try.underlying3 (hval 0 3 v0 rfl rfl) h0
  have k1 := h1
  have lt1 : ∀ x ∈ p1, x.block < W.heap.size := by obtain ⟨m, hm⟩ := k1; exact DataW.trod_lt m _ _ _ hm
  obtain ⟨c1, rfl, hz1⟩ := okWide_agg (by kernel_rfl) (hval 1 63 v1 rfl rfl)
  obtain ⟨fu1, hf1⟩ := h1
  obtain ⟨c1_0, c1_1, c1_2, c1_3, rfl⟩ := arr4 (hz1.trans (by kernel_rfl))
  obtain ⟨mg1_0_1_2_3_0, yg1_0_1_2_3_0, g1_0_1_2_3_0⟩ : ∃ m y, DataW.trod enc Try.prog W 0 (fun _ => true) true m 58 [c1_0, c1_1] = some y := sub_array (cs := [c1_0, c1_1, c1_2, c1_3]) Try.underlying63 hf1 0 (by decide) (by kernel_rfl)
  obtain ⟨mg1_0_1_0, yg1_0_1_0, g1_0_1_0⟩ : ∃ m y, DataW.trod enc Try.prog W 0 (fun _ => true) true m 22 [c1_0] = some y := sub_struct (cs := [c1_0, c1_1]) (o := 0) (s := 22) (c := 1) Try.underlying58 g1_0_1_2_3_0 0 _ rfl (by kernel_rfl) rfl
  obtain ⟨a1_0, e1_0, _, w1_0⟩ := DataW.trod_int Try.underlying22 g1_0_1_0
  obtain ⟨mg1_0_1_1, yg1_0_1_1, g1_0_1_1⟩ : ∃ m y, DataW.trod enc Try.prog W 0 (fun _ => true) true m 22 [c1_1] = some y := sub_struct (cs := [c1_0, c1_1]) (o := 1) (s := 22) (c := 1) Try.underlying58 g1_0_1_2_3_0 1 _ rfl (by kernel_rfl) rfl
  obtain ⟨a1_1, e1_1, _, w1_1⟩ := DataW.trod_int Try.underlying22 g1_0_1_1
  obtain ⟨mg1_0_1_2_3_1, yg1_0_1_2_3_1, g1_0_1_2_3_1⟩ : ∃ m y, DataW.trod enc Try.prog W 0 (fun _ => true) true m 58 [c1_2, c1_3] = some y := sub_array (cs := [c1_0, c1_1, c1_2, c1_3]) Try.underlying63 hf1 1 (by decide) (by kernel_rfl)
  obtain ⟨mg1_2_3_0, yg1_2_3_0, g1_2_3_0⟩ : ∃ m y, DataW.trod enc Try.prog W 0 (fun _ => true) true m 22 [c1_2] = some y := sub_struct (cs := [c1_2, c1_3]) (o := 0) (s := 22) (c := 1) Try.underlying58 g1_0_1_2_3_1 0 _ rfl (by kernel_rfl) rfl
  obtain ⟨a1_2, e1_2, _, w1_2⟩ := DataW.trod_int Try.underlying22 g1_2_3_0
  obtain ⟨mg1_2_3_1, yg1_2_3_1, g1_2_3_1⟩ : ∃ m y, DataW.trod enc Try.prog W 0 (fun _ => true) true m 22 [c1_3] = some y := sub_struct (cs := [c1_2, c1_3]) (o := 1) (s := 22) (c := 1) Try.underlying58 g1_0_1_2_3_1 1 _ rfl (by kernel_rfl) rfl
  obtain ⟨a1_3, e1_3, _, w1_3⟩ := DataW.trod_int Try.underlying22 g1_2_3_1
  obtain rfl := (List.cons.inj e1_0).1
  obtain rfl := (List.cons.inj e1_1).1
  obtain rfl := (List.cons.inj e1_2).1
  obtain rfl := (List.cons.inj e1_3).1
  have k2 := h2
  have lt2 : ∀ x ∈ p2, x.block < W.heap.size := by obtain ⟨m, hm⟩ := k2; exact DataW.trod_lt m _ _ _ hm
  obtain ⟨c2, rfl, hz2⟩ := okWide_agg (by kernel_rfl) (hval 2 26 v2 rfl rfl)
  obtain ⟨fu2, hf2⟩ := h2
  obtain ⟨c2_0, c2_1, rfl⟩ := arr2 (hz2.trans (by kernel_rfl))
  obtain ⟨mg2_0_1_0, yg2_0_1_0, g2_0_1_0⟩ : ∃ m y, DataW.trod enc Try.prog W 0 (fun _ => true) true m 22 [c2_0] = some y := sub_array (cs := [c2_0, c2_1]) Try.underlying26 hf2 0 (by decide) (by kernel_rfl)
  obtain ⟨a2_0, e2_0, _, w2_0⟩ := DataW.trod_int Try.underlying22 g2_0_1_0
  obtain ⟨mg2_0_1_1, yg2_0_1_1, g2_0_1_1⟩ : ∃ m y, DataW.trod enc Try.prog W 0 (fun _ => true) true m 22 [c2_1] = some y := sub_array (cs := [c2_0, c2_1]) Try.underlying26 hf2 1 (by decide) (by kernel_rfl)
  obtain ⟨a2_1, e2_1, _, w2_1⟩ := DataW.trod_int Try.underlying22 g2_0_1_1
  obtain rfl := (List.cons.inj e2_0).1
  obtain rfl := (List.cons.inj e2_1).1
  clear hA0 hval0 hsz0 hsz
  obtain ⟨k, hk⟩ := Pure.SpanNarrow a0 a1_0 a1_1 a1_2 a1_3 a2_0 a2_1 w0 w1_0 w1_1 w1_2 w1_3 w2_0 w2_1
  refine (PSpanNarrow.posternlaw15_SpanNarrow.calls k a0 a1_0 a1_1 a1_2 a1_3 a2_0 a2_1 true W ⟨rfl⟩  hk).mono fun e W' ⟨he, bel⟩ => ?_
  subst he
  exact ⟨_, rfl, _, _, _, [], _, [], hW', trodAll_mk1 (shut_bool Try.underlying4 _), (trodAll_cons_mk (shut_int Try.underlying3 w0) (trodAll_cons_mk (Below.trod laidOut (by kernel_rfl) (of_decide_eq_true (by kernel_rfl)) k1 bel lt1) (trodAll_cons_mk (Below.trod laidOut (by kernel_rfl) (of_decide_eq_true (by kernel_rfl)) k2 bel lt2) trodAll_mk0))), rfl, bel.frame _, fun h => by cases h⟩
theorem over : Rows.spanNarrowRow.holds Try.pinned (OpenSpec.ofChange Rows.spanNarrowSpec) :=
  OpenClaim.holds_of_wide 9 Try.f9 rfl rfl rfl rfl rfl rfl rfl ⟨rfl, rfl, rfl, rfl, rfl⟩ rfl rfl rfl rfl rfl (by kernel_rfl) Try.func9 (by kernel_rfl)
    (of_decide_eq_true (by kernel_rfl)) (by unfold Func.isWrapper; first | (rw [if_pos (by decide +kernel)]; kernel_rfl) | (rw [if_neg (by decide +kernel)]; exact ⟨rfl, rfl⟩))
    (fun os started H enc _ => lifted os started H enc)
theorem proved : Rows.SpanNarrowSaid := over
#print axioms proved
end Go.Proofs.Ytladlljnpmpdpaa.spanNarrow
namespace Go.Proofs.Ytladlljnpmpdpaa
/-- The row, under a short name, for the claim. -/
theorem spanNarrow_holds : Rows.SpanNarrowSaid := spanNarrow.proved
end Go.Proofs.Ytladlljnpmpdpaa
