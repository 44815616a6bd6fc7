/- PROVED HERE: for every sizes and every order: eight records may be open at once, each in a place of its own, a ninth is refused, and one that ends makes room for one. No condition but the kinds of the arguments. -/
import Derived.Test.YtpjgaacdohiomaaRows
import Derived.Test.YtpjgaacdohiomaaRingRoom
import Derived.Test.YtpjgaacdohiomaaOpen
import Derived.Test.YtpjgaacdohiomaaOpenSl
import Derived.WalkKit
import Derived.ProofKit
import Derived.OpenShut
import Derived.ShutString
import Derived.ChangeOld
import Derived.Below
import Derived.Carry
import Derived.SizedLaws
namespace Go.Proofs.Ytpjgaacdohiomaa.lawRingRoom
open Go.ChangeShapes Go.WideShapes Go.ChangeAt Go.RowKit Go.Deep Go.Proofs.YtpjgaacdohiomaaW.PrintWords Go.Proofs.YtpjgaacdohiomaaW.PrintLast Go.Proofs.Ytpjgaacdohiomaa.Open Go.Proofs.Ytpjgaacdohiomaa.RingRoom
open Go.ChangeMaps (open_string shut_string)
set_option linter.unusedVariables false
theorem own : ownKnob Try.prog.godebug = none := by kernel_rfl
theorem laidOut : laidOutB Try.prog = true := by kernel_rfl
theorem opens64 : OpenSl.Opens Try.prog 22 (Kd.int .u64) (fun b => (Lit.int .u64 b).wf = true) := by
  intro H enc W spare held fuel cs x hl h
  match cs, (show cs.length = 1 from hl) with
  | [c0], _ =>
    obtain ⟨a0, e0, _, w0⟩ := DataW.trod_int Try.underlying22 h
    obtain rfl := (List.cons.inj e0).1
    exact ⟨a0, rfl, w0⟩
set_option maxRecDepth 100000 in
theorem lifted (os : Os) (started : os.Started) (H : Type) (enc : TypeId × Value → H) :
    ReturnsInHanded {} Try.checked os 9 .any (Rows.ringRoomSpec.pre6 enc Try.prog Try.f9 Rows.ringRoomRow.domain false) (Rows.ringRoomSpec.post enc Try.prog Try.f9 false true false false) := by
  refine returnsInHanded_of_change_sized (C := Try.checked) own started (by kernel_rfl) Try.func9
    (ChangeSpec.witness6 (enc := enc) (C := Try.checked) false ⟨#[], #[.slice none 0 0, .int .u64 0], []⟩ 8 (by kernel_rfl) (by kernel_rfl) (by kernel_rfl) (by kernel_rfl)) ?_
  intro W base args ds gs before hval0 hW hcnd hsz0 _
  have hval : ∀ (j : Nat) t v, Try.f9.params[j]? = some t → args[j]? = some v → Value.okWide Try.prog W .any base t v := hval0
  have hW' := hW
  obtain ⟨p, q, hA0, hV, rfl, hfz, hnd⟩ := hW
  have hA : DataW.TrodAll enc Try.prog W 0 (fun _ => true) true Try.f9.params.toList args.toList ds p := hA0
  rw [Try.params9] at hA hval
  obtain ⟨v0, vs0, d0, ds0, p0, q0, hargs, rfl, rfl, h0, r0⟩ := trodAll_cons hA
  obtain ⟨v1, vs1, d1, ds1, p1, q1, rfl, rfl, rfl, h1, r1⟩ := trodAll_cons r0
  obtain ⟨rfl, rfl, rfl⟩ := trodAll_nil r1
  obtain rfl : args = #[v0, v1] := by cases args; simp_all
  obtain ⟨rfl, rfl⟩ := trodVars_none hV
  obtain ⟨a0, len0, cap0, rfl⟩ := okWide_slice Try.underlying65 (hval 0 65 v0 rfl rfl)
  have k0 := h0
  have lt0 : ∀ x ∈ p0, x.block < W.heap.size := by obtain ⟨m, hm⟩ := k0; exact DataW.trod_lt m _ _ _ hm
  obtain ⟨l0, hn0, hr0, hc0, hm0, hw0⟩ := OpenSl.opens_slice (0 : Int) opens64 Try.underlying65 (by kernel_rfl) h0
  subst hn0
  obtain ⟨a1, rfl, rfl, rfl, w1⟩ := open_int Try.underlying22 (hval 1 22 v1 rfl rfl) h1
  clear hA0 hval0 hsz0 h1
  refine (law_calls a0 l0 cap0 a1 W hr0 hc0 hm0 (fun b hb => by have := bounds_u64 (hw0 b hb); omega) (by have := bounds_u64 w1; omega)).mono fun e W' ⟨he, bel⟩ => ?_
  subst he
  exact ⟨_, rfl, _, _, _, [], _, [], hW', trodAll_mk1 (shut_bool Try.underlying4 _), (trodAll_cons_mk (Below.trod laidOut (by kernel_rfl) (of_decide_eq_true (by kernel_rfl)) k0 bel lt0) (trodAll_cons_mk (shut_int Try.underlying22 w1) trodAll_mk0)), rfl, bel.frame _, fun h => by cases h⟩
theorem over : Rows.ringRoomRow.holds Try.pinned (OpenSpec.ofChange Rows.ringRoomSpec) :=
  OpenClaim.holds_of_wide 9 Try.f9 rfl rfl rfl rfl rfl rfl rfl ⟨rfl, rfl, rfl, rfl, rfl⟩ rfl rfl rfl rfl rfl (by kernel_rfl) Try.func9 (by kernel_rfl)
    (of_decide_eq_true (by kernel_rfl)) (by unfold Func.isWrapper; first | (rw [if_pos (by decide +kernel)]; kernel_rfl) | (rw [if_neg (by decide +kernel)]; exact ⟨rfl, rfl⟩))
    (fun os started H enc _ => lifted os started H enc)
theorem proved : Rows.RingRoomSaid := over
#print axioms proved
end Go.Proofs.Ytpjgaacdohiomaa.lawRingRoom
namespace Go.Proofs.Ytpjgaacdohiomaa
/-- The row, under a short name, for the claim. -/
theorem ringRoom_holds : Rows.RingRoomSaid := lawRingRoom.proved
end Go.Proofs.Ytpjgaacdohiomaa
