/- PROVED HERE: for every base, every two sizes and every two permissions: what one region allows says nothing of the region beside it: no access reaches over their border, each reads and writes as its own permission says, a region over another is refused, one is killed once and the other lives on. No condition but the kinds of the arguments. -/
import Derived.Test.YtpjgaacdohiomaaRows
import Derived.Test.YtpjgaacdohiomaaMemApart
import Derived.Test.YtpjgaacdohiomaaOpen
import Derived.Test.YtpjgaacdohiomaaOpenSl
import Derived.WalkKit
import Derived.ProofKit
import Derived.OpenShut
import Derived.ShutString
import Derived.ChangeOld
import Derived.Below
import Derived.Carry
import Derived.SizedLaws
namespace Go.Proofs.Ytpjgaacdohiomaa.lawMemApart
open Go.ChangeShapes Go.WideShapes Go.ChangeAt Go.RowKit Go.Deep Go.Proofs.YtpjgaacdohiomaaW.PrintWords Go.Proofs.YtpjgaacdohiomaaW.PrintLast Go.Proofs.Ytpjgaacdohiomaa.Open Go.Proofs.Ytpjgaacdohiomaa.MemApart
open Go.ChangeMaps (open_string shut_string)
set_option linter.unusedVariables false
theorem own : ownKnob Try.prog.godebug = none := by kernel_rfl
theorem laidOut : laidOutB Try.prog = true := by kernel_rfl
set_option maxRecDepth 100000 in
theorem open_sizes {H : Type} {enc : TypeId × Value → H} {W : World} {base : Nat} {spare : Nat → Bool} {held : Bool} {v : Value} {D : DataW H} {ps : List MemPlace} (hv : Value.okWide Try.prog W .any base 42 v) (h : DataW.Trod enc Try.prog W 0 spare held 42 v D ps) : ∃ a b : Int, v = .agg #[.int .i64 a, .int .i64 b] := by
  obtain ⟨cs, rfl, hsz⟩ := okWide_agg (P := Try.prog) (t := 42) (r := .any) (b0 := base) (w := W) (by kernel_rfl) hv
  obtain ⟨c0, c1, rfl⟩ := arr2 (hsz.trans (by kernel_rfl))
  obtain ⟨fuel, hf⟩ := h
  have e1 : Try.prog.cellsOf 3 = 1 := by kernel_rfl
  obtain ⟨m0, y0, g0⟩ := sub_array (cs' := [c0]) Try.underlying42 hf 0 (by decide) (by rw [e1]; rfl)
  obtain ⟨m1, y1, g1⟩ := sub_array (cs' := [c1]) Try.underlying42 hf 1 (by decide) (by rw [e1]; rfl)
  obtain ⟨a0, q0, _, _⟩ := DataW.trod_int Try.underlying3 g0
  obtain ⟨a1, q1, _, _⟩ := DataW.trod_int Try.underlying3 g1
  obtain rfl := (List.cons.inj q0).1
  obtain rfl := (List.cons.inj q1).1
  exact ⟨a0, a1, rfl⟩
set_option maxRecDepth 100000 in
theorem lifted (os : Os) (started : os.Started) (H : Type) (enc : TypeId × Value → H) :
    ReturnsInHanded {} Try.checked os 5 .any (Rows.memApartSpec.pre6 enc Try.prog Try.f5 Rows.memApartRow.domain false) (Rows.memApartSpec.post enc Try.prog Try.f5 false true false false) := by
  refine returnsInHanded_of_change_sized (C := Try.checked) own started (by kernel_rfl) Try.func5
    (ChangeSpec.witness6 (enc := enc) (C := Try.checked) false ⟨#[], #[.int .u64 0, .agg #[.int .i64 0, .int .i64 0], .agg #[.int .i64 0, .int .i64 0]], []⟩ 8 (by kernel_rfl) (by kernel_rfl) (by kernel_rfl) (by kernel_rfl)) ?_
  intro W base args ds gs before hval0 hW hcnd hsz0 _
  have hval : ∀ (j : Nat) t v, Try.f5.params[j]? = some t → args[j]? = some v → Value.okWide Try.prog W .any base t v := hval0
  have hW' := hW
  obtain ⟨p, q, hA0, hV, rfl, hfz, hnd⟩ := hW
  have hA : DataW.TrodAll enc Try.prog W 0 (fun _ => true) true Try.f5.params.toList args.toList ds p := hA0
  rw [Try.params5] at hA hval
  obtain ⟨v0, vs0, d0, ds0, p0, q0, hargs, rfl, rfl, h0, r0⟩ := trodAll_cons hA
  obtain ⟨v1, vs1, d1, ds1, p1, q1, rfl, rfl, rfl, h1, r1⟩ := trodAll_cons r0
  obtain ⟨v2, vs2, d2, ds2, p2, q2, rfl, rfl, rfl, h2, r2⟩ := trodAll_cons r1
  obtain ⟨rfl, rfl, rfl⟩ := trodAll_nil r2
  obtain rfl : args = #[v0, v1, v2] := by cases args; simp_all
  obtain ⟨rfl, rfl⟩ := trodVars_none hV
  obtain ⟨a0, rfl, rfl, rfl, w0⟩ := open_int Try.underlying22 (hval 0 22 v0 rfl rfl) h0
  have k1 := h1
  have lt1 : ∀ x ∈ p1, x.block < W.heap.size := by obtain ⟨m, hm⟩ := k1; exact DataW.trod_lt m _ _ _ hm
  obtain ⟨a1, b1, rfl⟩ := open_sizes (hval 1 42 v1 rfl rfl) h1
  have k2 := h2
  have lt2 : ∀ x ∈ p2, x.block < W.heap.size := by obtain ⟨m, hm⟩ := k2; exact DataW.trod_lt m _ _ _ hm
  obtain ⟨a2, b2, rfl⟩ := open_sizes (hval 2 42 v2 rfl rfl) h2
  clear hA0 hval0 hsz0
  have hb := bounds_u64 w0
  refine (law_calls a0 a1 b1 a2 b2 W (by omega)).mono fun e W' ⟨he, bel⟩ => ?_
  subst he
  exact ⟨_, rfl, _, _, _, [], _, [], hW', trodAll_mk1 (shut_bool Try.underlying4 _), (trodAll_cons_mk (shut_int Try.underlying22 w0) (trodAll_cons_mk (Below.trod laidOut (by kernel_rfl) (of_decide_eq_true (by kernel_rfl)) k1 bel lt1) (trodAll_cons_mk (Below.trod laidOut (by kernel_rfl) (of_decide_eq_true (by kernel_rfl)) k2 bel lt2) trodAll_mk0))), rfl, bel.frame _, fun h => by cases h⟩
theorem over : Rows.memApartRow.holds Try.pinned (OpenSpec.ofChange Rows.memApartSpec) :=
  OpenClaim.holds_of_wide 5 Try.f5 rfl rfl rfl rfl rfl rfl rfl ⟨rfl, rfl, rfl, rfl, rfl⟩ rfl rfl rfl rfl rfl (by kernel_rfl) Try.func5 (by kernel_rfl)
    (of_decide_eq_true (by kernel_rfl)) (by unfold Func.isWrapper; first | (rw [if_pos (by decide +kernel)]; kernel_rfl) | (rw [if_neg (by decide +kernel)]; exact ⟨rfl, rfl⟩))
    (fun os started H enc _ => lifted os started H enc)
theorem proved : Rows.MemApartSaid := over
#print axioms proved
end Go.Proofs.Ytpjgaacdohiomaa.lawMemApart
namespace Go.Proofs.Ytpjgaacdohiomaa
/-- The row, under a short name, for the claim. -/
theorem memApart_holds : Rows.MemApartSaid := lawMemApart.proved
end Go.Proofs.Ytpjgaacdohiomaa
