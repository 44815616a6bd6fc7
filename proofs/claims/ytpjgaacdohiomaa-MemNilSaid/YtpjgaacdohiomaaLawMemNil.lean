/- PROVED HERE: for every call's fields: a nil memory refuses every call with its own error, its copy is nil, and a region added to one memory is not seen by another. No condition but the kinds of the fields. -/
import Derived.Test.YtpjgaacdohiomaaRows
import Derived.Test.YtpjgaacdohiomaaMemNil
import Derived.Test.YtpjgaacdohiomaaOpen
import Derived.Test.YtpjgaacdohiomaaOpenSl
import Derived.WalkKit
import Derived.ProofKit
import Derived.OpenShut
import Derived.ShutString
import Derived.ChangeOld
import Derived.Below
import Derived.Carry
import Derived.SizedLaws
namespace Go.Proofs.Ytpjgaacdohiomaa.lawMemNil
open Go.ChangeShapes Go.WideShapes Go.ChangeAt Go.RowKit Go.Deep Go.Proofs.YtpjgaacdohiomaaW.PrintWords Go.Proofs.YtpjgaacdohiomaaW.PrintLast Go.Proofs.Ytpjgaacdohiomaa.Open Go.Proofs.Ytpjgaacdohiomaa.MemNil
open Go.ChangeMaps (open_string shut_string)
set_option linter.unusedVariables false
theorem own : ownKnob Try.prog.godebug = none := by kernel_rfl
theorem laidOut : laidOutB Try.prog = true := by kernel_rfl
set_option maxRecDepth 100000 in
theorem open_op {H : Type} {enc : TypeId × Value → H} {W : World} {base : Nat} {spare : Nat → Bool} {held : Bool} {v : Value} {D : DataW H} {ps : List MemPlace} (hv : Value.okWide Try.prog W .any base 54 v) (h : DataW.Trod enc Try.prog W 0 spare held 54 v D ps) :
    ∃ k a n m u : Int, ∃ b, v = .agg #[.int .i64 k, .int .u64 a, .int .i64 n, .int .i64 m, .int .u64 u, b] ∧ ∃ ao l c, b = .slice ao l c := by
  obtain ⟨cs, rfl, hsz⟩ := okWide_agg (P := Try.prog) (t := 54) (r := .any) (b0 := base) (w := W) (by kernel_rfl) hv
  obtain ⟨c0, c1, c2, c3, c4, c5, rfl⟩ := arr6 (hsz.trans (by kernel_rfl))
  obtain ⟨fuel, hf⟩ := h
  obtain ⟨m0, y0, g0⟩ : ∃ m y, DataW.trod enc Try.prog W 0 spare held m 3 [c0] = some y := sub_struct (cs := [c0, c1, c2, c3, c4, c5]) (o := 0) (s := 3) (c := 1) Try.underlying54 hf 0 _ rfl (by kernel_rfl) rfl
  obtain ⟨m1, y1, g1⟩ : ∃ m y, DataW.trod enc Try.prog W 0 spare held m 22 [c1] = some y := sub_struct (cs := [c0, c1, c2, c3, c4, c5]) (o := 1) (s := 22) (c := 1) Try.underlying54 hf 1 _ rfl (by kernel_rfl) rfl
  obtain ⟨m2, y2, g2⟩ : ∃ m y, DataW.trod enc Try.prog W 0 spare held m 3 [c2] = some y := sub_struct (cs := [c0, c1, c2, c3, c4, c5]) (o := 2) (s := 3) (c := 1) Try.underlying54 hf 2 _ rfl (by kernel_rfl) rfl
  obtain ⟨m3, y3, g3⟩ : ∃ m y, DataW.trod enc Try.prog W 0 spare held m 3 [c3] = some y := sub_struct (cs := [c0, c1, c2, c3, c4, c5]) (o := 3) (s := 3) (c := 1) Try.underlying54 hf 3 _ rfl (by kernel_rfl) rfl
  obtain ⟨m4, y4, g4⟩ : ∃ m y, DataW.trod enc Try.prog W 0 spare held m 22 [c4] = some y := sub_struct (cs := [c0, c1, c2, c3, c4, c5]) (o := 4) (s := 22) (c := 1) Try.underlying54 hf 4 _ rfl (by kernel_rfl) rfl
  obtain ⟨m5, y5, g5⟩ : ∃ m y, DataW.trod enc Try.prog W 0 spare held m 36 [c5] = some y := sub_struct (cs := [c0, c1, c2, c3, c4, c5]) (o := 5) (s := 36) (c := 1) Try.underlying54 hf 5 _ rfl (by kernel_rfl) rfl
  obtain ⟨a0, e0, _, _⟩ := DataW.trod_int Try.underlying3 g0
  obtain ⟨a1, e1, _, _⟩ := DataW.trod_int Try.underlying22 g1
  obtain ⟨a2, e2, _, _⟩ := DataW.trod_int Try.underlying3 g2
  obtain ⟨a3, e3, _, _⟩ := DataW.trod_int Try.underlying3 g3
  obtain ⟨a4, e4, _, _⟩ := DataW.trod_int Try.underlying22 g4
  have hs : ∃ a len cap, c5 = .slice a len cap := by
    rcases open_slice Try.underlying36 g5 with ⟨hcs, _⟩ | ⟨x, l, c, m, n, E, Pl, hcs, _⟩
    · exact ⟨_, _, _, (List.cons.inj hcs).1⟩
    · exact ⟨_, _, _, (List.cons.inj hcs).1⟩
  obtain rfl := (List.cons.inj e0).1
  obtain rfl := (List.cons.inj e1).1
  obtain rfl := (List.cons.inj e2).1
  obtain rfl := (List.cons.inj e3).1
  obtain rfl := (List.cons.inj e4).1
  exact ⟨a0, a1, a2, a3, a4, c5, rfl, hs⟩
set_option maxRecDepth 100000 in
theorem lifted (os : Os) (started : os.Started) (H : Type) (enc : TypeId × Value → H) :
    ReturnsInHanded {} Try.checked os 8 .any (Rows.memNilSpec.pre6 enc Try.prog Try.f8 Rows.memNilRow.domain false) (Rows.memNilSpec.post enc Try.prog Try.f8 false true false false) := by
  refine returnsInHanded_of_change_sized (C := Try.checked) own started (by kernel_rfl) Try.func8
    (ChangeSpec.witness6 (enc := enc) (C := Try.checked) false ⟨#[], #[.agg #[.int .i64 0, .int .u64 0, .int .i64 0, .int .i64 0, .int .u64 0, .slice none 0 0]], []⟩ 8 (by kernel_rfl) (by kernel_rfl) (by kernel_rfl) (by kernel_rfl)) ?_
  intro W base args ds gs before hval0 hW hcnd hsz0 _
  have hval : ∀ (j : Nat) t v, Try.f8.params[j]? = some t → args[j]? = some v → Value.okWide Try.prog W .any base t v := hval0
  have hW' := hW
  obtain ⟨p, q, hA0, hV, rfl, hfz, hnd⟩ := hW
  have hA : DataW.TrodAll enc Try.prog W 0 (fun _ => true) true Try.f8.params.toList args.toList ds p := hA0
  rw [Try.params8] at hA hval
  obtain ⟨v0, vs0, d0, ds0, p0, q0, hargs, rfl, rfl, h0, r0⟩ := trodAll_cons hA
  obtain ⟨rfl, rfl, rfl⟩ := trodAll_nil r0
  obtain rfl : args = #[v0] := by cases args; simp_all
  obtain ⟨rfl, rfl⟩ := trodVars_none hV
  have k0 := h0
  have lt0 : ∀ x ∈ p0, x.block < W.heap.size := by obtain ⟨m, hm⟩ := k0; exact DataW.trod_lt m _ _ _ hm
  obtain ⟨k, a, n, m, u, b, rfl, hb⟩ := open_op (hval 0 54 v0 rfl rfl) h0
  clear hA0 hval0 hsz0
  refine (law_calls k a n m u b W hb).mono fun e W' ⟨he, bel⟩ => ?_
  subst he
  exact ⟨_, rfl, _, _, _, [], _, [], hW', trodAll_mk1 (shut_bool Try.underlying4 _), (trodAll_cons_mk (Below.trod laidOut (by kernel_rfl) (of_decide_eq_true (by kernel_rfl)) k0 bel lt0) trodAll_mk0), rfl, bel.frame _, fun h => by cases h⟩
theorem over : Rows.memNilRow.holds Try.pinned (OpenSpec.ofChange Rows.memNilSpec) :=
  OpenClaim.holds_of_wide 8 Try.f8 rfl rfl rfl rfl rfl rfl rfl ⟨rfl, rfl, rfl, rfl, rfl⟩ rfl rfl rfl rfl rfl (by kernel_rfl) Try.func8 (by kernel_rfl)
    (of_decide_eq_true (by kernel_rfl)) (by unfold Func.isWrapper; first | (rw [if_pos (by decide +kernel)]; kernel_rfl) | (rw [if_neg (by decide +kernel)]; exact ⟨rfl, rfl⟩))
    (fun os started H enc _ => lifted os started H enc)
theorem proved : Rows.MemNilSaid := over
#print axioms proved
end Go.Proofs.Ytpjgaacdohiomaa.lawMemNil
namespace Go.Proofs.Ytpjgaacdohiomaa
/-- The row, under a short name, for the claim. -/
theorem memNil_holds : Rows.MemNilSaid := lawMemNil.proved
end Go.Proofs.Ytpjgaacdohiomaa
