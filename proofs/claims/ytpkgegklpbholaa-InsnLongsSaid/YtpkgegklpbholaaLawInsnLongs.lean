/- PROVED HERE: for any two slots and every number of 64 bits: joining two slots gives what the document says, and splitting a number and joining it again gives the number, in slots of the shape that the document says. No condition but the kinds of the numbers. -/
import Derived.Test.YtpkgegklpbholaaRows
import Derived.Test.YtpkgegklpbholaaPInsnLongsx
import Derived.Test.YtpkgegklpbholaaPureInsnLongs
import Derived.Test.YtpkgegklpbholaaOpen
import Derived.WalkKit
import Derived.ProofKit
import Derived.OpenShut
import Derived.ShutString
import Derived.ChangeOld
import Derived.Below
import Derived.Carry
import Derived.SizedLaws
namespace Go.Proofs.Ytpkgegklpbholaa.insnLongs
open Go.ChangeShapes Go.WideShapes Go.ChangeAt Go.RowKit Go.Proofs.YtpkgegklpbholaaW.PrintWords Go.Proofs.YtpkgegklpbholaaW.PrintLast Go.Proofs.Ytpkgegklpbholaa.Open
open Go.ChangeMaps (open_string shut_string)
set_option linter.unusedVariables false
theorem own : ownKnob Try.prog.godebug = none := by kernel_rfl
theorem laidOut : laidOutB Try.prog = true := by kernel_rfl
set_option maxRecDepth 100000 in
theorem lifted (os : Os) (started : os.Started) (H : Type) (enc : TypeId × Value → H) :
    ReturnsInHanded {} Try.checked os 3 .any (Rows.insnLongsSpec.pre6 enc Try.prog Try.f3 Rows.insnLongsRow.domain false) (Rows.insnLongsSpec.post enc Try.prog Try.f3 false true false false) := by
  refine returnsInHanded_of_change_sized (C := Try.checked) own started (by kernel_rfl) Try.func3
    (ChangeSpec.witness6 (enc := enc) (C := Try.checked) false ⟨#[], #[.agg #[.int .u8 0, .int .u8 0, .int .u8 0, .int .i16 0, .int .i32 0], .agg #[.int .u8 0, .int .u8 0, .int .u8 0, .int .i16 0, .int .i32 0], .int .u64 0], []⟩ 8 (by kernel_rfl) (by kernel_rfl) (by kernel_rfl) (by kernel_rfl)) ?_
  intro W base args ds gs before hval0 hW hcnd hsz0 _
  have hsz : (DataW.weightsEach Try.prog (Try.f3.params.toList ++ Rows.insnLongsSpec.plain.varTypes Try.prog) (ds ++ gs)).all (· ≤ reachBytes) = true := hsz0
  have hval : ∀ (j : Nat) t v, Try.f3.params[j]? = some t → args[j]? = some v → Value.okWide Try.prog W .any base t v := hval0
  have hW' := hW
  obtain ⟨p, q, hA0, hV, rfl, hfz, hnd⟩ := hW
  have hA : DataW.TrodAll enc Try.prog W 0 (fun _ => true) true Try.f3.params.toList args.toList ds p := hA0
  rw [Try.params3] at hA hval hsz
  obtain ⟨v0, vs0, d0, ds0, p0, q0, hargs, rfl, rfl, h0, r0⟩ := trodAll_cons hA
  obtain ⟨v1, vs1, d1, ds1, p1, q1, rfl, rfl, rfl, h1, r1⟩ := trodAll_cons r0
  obtain ⟨v2, vs2, d2, ds2, p2, q2, rfl, rfl, rfl, h2, r2⟩ := trodAll_cons r1
  obtain ⟨rfl, rfl, rfl⟩ := trodAll_nil r2
  obtain rfl : args = #[v0, v1, v2] := by cases args; simp_all
  obtain ⟨rfl, rfl⟩ := trodVars_none hV
  have k0 := h0
  have lt0 : ∀ x ∈ p0, x.block < W.heap.size := by obtain ⟨m, hm⟩ := k0; exact DataW.trod_lt m _ _ _ hm
  obtain ⟨c0, rfl, hz0⟩ := okWide_agg (by kernel_rfl) (hval 0 24 v0 rfl rfl)
  obtain ⟨fu0, hf0⟩ := h0
  obtain ⟨c0_0, c0_1, c0_2, c0_3, c0_4, rfl⟩ := arr5 (hz0.trans (by kernel_rfl))
  obtain ⟨mg0_0_1_2_3_4_0, yg0_0_1_2_3_4_0, g0_0_1_2_3_4_0⟩ : ∃ m y, DataW.trod enc Try.prog W 0 (fun _ => true) true m 5 [c0_0] = some y := sub_struct (cs := [c0_0, c0_1, c0_2, c0_3, c0_4]) (o := 0) (s := 5) (c := 1) Try.underlying24 hf0 0 _ rfl (by kernel_rfl) rfl
  obtain ⟨a0_0, e0_0, _, w0_0⟩ := DataW.trod_int Try.underlying5 g0_0_1_2_3_4_0
  obtain ⟨mg0_0_1_2_3_4_1, yg0_0_1_2_3_4_1, g0_0_1_2_3_4_1⟩ : ∃ m y, DataW.trod enc Try.prog W 0 (fun _ => true) true m 5 [c0_1] = some y := sub_struct (cs := [c0_0, c0_1, c0_2, c0_3, c0_4]) (o := 1) (s := 5) (c := 1) Try.underlying24 hf0 1 _ rfl (by kernel_rfl) rfl
  obtain ⟨a0_1, e0_1, _, w0_1⟩ := DataW.trod_int Try.underlying5 g0_0_1_2_3_4_1
  obtain ⟨mg0_0_1_2_3_4_2, yg0_0_1_2_3_4_2, g0_0_1_2_3_4_2⟩ : ∃ m y, DataW.trod enc Try.prog W 0 (fun _ => true) true m 5 [c0_2] = some y := sub_struct (cs := [c0_0, c0_1, c0_2, c0_3, c0_4]) (o := 2) (s := 5) (c := 1) Try.underlying24 hf0 2 _ rfl (by kernel_rfl) rfl
  obtain ⟨a0_2, e0_2, _, w0_2⟩ := DataW.trod_int Try.underlying5 g0_0_1_2_3_4_2
  obtain ⟨mg0_0_1_2_3_4_3, yg0_0_1_2_3_4_3, g0_0_1_2_3_4_3⟩ : ∃ m y, DataW.trod enc Try.prog W 0 (fun _ => true) true m 22 [c0_3] = some y := sub_struct (cs := [c0_0, c0_1, c0_2, c0_3, c0_4]) (o := 3) (s := 22) (c := 1) Try.underlying24 hf0 3 _ rfl (by kernel_rfl) rfl
  obtain ⟨a0_3, e0_3, _, w0_3⟩ := DataW.trod_int Try.underlying22 g0_0_1_2_3_4_3
  obtain ⟨mg0_0_1_2_3_4_4, yg0_0_1_2_3_4_4, g0_0_1_2_3_4_4⟩ : ∃ m y, DataW.trod enc Try.prog W 0 (fun _ => true) true m 21 [c0_4] = some y := sub_struct (cs := [c0_0, c0_1, c0_2, c0_3, c0_4]) (o := 4) (s := 21) (c := 1) Try.underlying24 hf0 4 _ rfl (by kernel_rfl) rfl
  obtain ⟨a0_4, e0_4, _, w0_4⟩ := DataW.trod_int Try.underlying21 g0_0_1_2_3_4_4
  obtain rfl := (List.cons.inj e0_0).1
  obtain rfl := (List.cons.inj e0_1).1
  obtain rfl := (List.cons.inj e0_2).1
  obtain rfl := (List.cons.inj e0_3).1
  obtain rfl := (List.cons.inj e0_4).1
  have k1 := h1
  have lt1 : ∀ x ∈ p1, x.block < W.heap.size := by obtain ⟨m, hm⟩ := k1; exact DataW.trod_lt m _ _ _ hm
  obtain ⟨c1, rfl, hz1⟩ := okWide_agg (by kernel_rfl) (hval 1 24 v1 rfl rfl)
  obtain ⟨fu1, hf1⟩ := h1
  obtain ⟨c1_0, c1_1, c1_2, c1_3, c1_4, rfl⟩ := arr5 (hz1.trans (by kernel_rfl))
  obtain ⟨mg1_0_1_2_3_4_0, yg1_0_1_2_3_4_0, g1_0_1_2_3_4_0⟩ : ∃ m y, DataW.trod enc Try.prog W 0 (fun _ => true) true m 5 [c1_0] = some y := sub_struct (cs := [c1_0, c1_1, c1_2, c1_3, c1_4]) (o := 0) (s := 5) (c := 1) Try.underlying24 hf1 0 _ rfl (by kernel_rfl) rfl
  obtain ⟨a1_0, e1_0, _, w1_0⟩ := DataW.trod_int Try.underlying5 g1_0_1_2_3_4_0
  obtain ⟨mg1_0_1_2_3_4_1, yg1_0_1_2_3_4_1, g1_0_1_2_3_4_1⟩ : ∃ m y, DataW.trod enc Try.prog W 0 (fun _ => true) true m 5 [c1_1] = some y := sub_struct (cs := [c1_0, c1_1, c1_2, c1_3, c1_4]) (o := 1) (s := 5) (c := 1) Try.underlying24 hf1 1 _ rfl (by kernel_rfl) rfl
  obtain ⟨a1_1, e1_1, _, w1_1⟩ := DataW.trod_int Try.underlying5 g1_0_1_2_3_4_1
  obtain ⟨mg1_0_1_2_3_4_2, yg1_0_1_2_3_4_2, g1_0_1_2_3_4_2⟩ : ∃ m y, DataW.trod enc Try.prog W 0 (fun _ => true) true m 5 [c1_2] = some y := sub_struct (cs := [c1_0, c1_1, c1_2, c1_3, c1_4]) (o := 2) (s := 5) (c := 1) Try.underlying24 hf1 2 _ rfl (by kernel_rfl) rfl
  obtain ⟨a1_2, e1_2, _, w1_2⟩ := DataW.trod_int Try.underlying5 g1_0_1_2_3_4_2
  obtain ⟨mg1_0_1_2_3_4_3, yg1_0_1_2_3_4_3, g1_0_1_2_3_4_3⟩ : ∃ m y, DataW.trod enc Try.prog W 0 (fun _ => true) true m 22 [c1_3] = some y := sub_struct (cs := [c1_0, c1_1, c1_2, c1_3, c1_4]) (o := 3) (s := 22) (c := 1) Try.underlying24 hf1 3 _ rfl (by kernel_rfl) rfl
  obtain ⟨a1_3, e1_3, _, w1_3⟩ := DataW.trod_int Try.underlying22 g1_0_1_2_3_4_3
  obtain ⟨mg1_0_1_2_3_4_4, yg1_0_1_2_3_4_4, g1_0_1_2_3_4_4⟩ : ∃ m y, DataW.trod enc Try.prog W 0 (fun _ => true) true m 21 [c1_4] = some y := sub_struct (cs := [c1_0, c1_1, c1_2, c1_3, c1_4]) (o := 4) (s := 21) (c := 1) Try.underlying24 hf1 4 _ rfl (by kernel_rfl) rfl
  obtain ⟨a1_4, e1_4, _, w1_4⟩ := DataW.trod_int Try.underlying21 g1_0_1_2_3_4_4
  obtain rfl := (List.cons.inj e1_0).1
  obtain rfl := (List.cons.inj e1_1).1
  obtain rfl := (List.cons.inj e1_2).1
  obtain rfl := (List.cons.inj e1_3).1
  obtain rfl := (List.cons.inj e1_4).1
  obtain ⟨a2, rfl, rfl, rfl, w2⟩ := open_int Try.underlying25 (hval 2 25 v2 rfl rfl) h2
  clear hA0 hval0 hsz0 hsz
  obtain ⟨k, hk⟩ := Pure.InsnLongs a0_0 a0_1 a0_2 a0_3 a0_4 a1_0 a1_1 a1_2 a1_3 a1_4 a2 w0_0 w0_1 w0_2 w0_3 w0_4 w1_0 w1_1 w1_2 w1_3 w1_4 w2
  refine (PInsnLongs.posternlaw02_InsnLongs.calls k a0_0 a0_1 a0_2 a0_3 a0_4 a1_0 a1_1 a1_2 a1_3 a1_4 a2 true W ⟨rfl⟩  hk).mono fun e W' ⟨he, bel⟩ => ?_
  subst he
  exact ⟨_, rfl, _, _, _, [], _, [], hW', trodAll_mk1 (shut_bool Try.underlying4 _), (trodAll_cons_mk (Below.trod laidOut (by kernel_rfl) (of_decide_eq_true (by kernel_rfl)) k0 bel lt0) (trodAll_cons_mk (Below.trod laidOut (by kernel_rfl) (of_decide_eq_true (by kernel_rfl)) k1 bel lt1) (trodAll_cons_mk (shut_int Try.underlying25 w2) trodAll_mk0))), rfl, bel.frame _, fun h => by cases h⟩
theorem over : Rows.insnLongsRow.holds Try.pinned (OpenSpec.ofChange Rows.insnLongsSpec) :=
  OpenClaim.holds_of_wide 3 Try.f3 rfl rfl rfl rfl rfl rfl rfl ⟨rfl, rfl, rfl, rfl, rfl⟩ rfl rfl rfl rfl rfl (by kernel_rfl) Try.func3 (by kernel_rfl)
    (of_decide_eq_true (by kernel_rfl)) (by unfold Func.isWrapper; first | (rw [if_pos (by decide +kernel)]; kernel_rfl) | (rw [if_neg (by decide +kernel)]; exact ⟨rfl, rfl⟩))
    (fun os started H enc _ => lifted os started H enc)
theorem proved : Rows.InsnLongsSaid := over
#print axioms proved
end Go.Proofs.Ytpkgegklpbholaa.insnLongs
namespace Go.Proofs.Ytpkgegklpbholaa
/-- The row, under a short name, for the claim. -/
theorem insnLongs_holds : Rows.InsnLongsSaid := insnLongs.proved
end Go.Proofs.Ytpkgegklpbholaa
