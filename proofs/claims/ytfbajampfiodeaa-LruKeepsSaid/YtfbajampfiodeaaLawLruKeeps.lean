/- PROVED HERE: for every size and every row of keys: a new lru index of this size is refused just if it can't be; else the keys touched last are those that are held, as many as there is room for. No condition but the kinds of the arguments. -/
import Derived.Test.YtfbajampfiodeaaRows
import Derived.Test.YtfbajampfiodeaaLruKeeps
import Derived.Test.YtfbajampfiodeaaOpen
import Derived.Test.YtfbajampfiodeaaOpenSl
import Derived.WalkKit
import Derived.ProofKit
import Derived.OpenShut
import Derived.ShutString
import Derived.ChangeOld
import Derived.Below
import Derived.Carry
import Derived.SizedLaws
namespace Go.Proofs.Ytfbajampfiodeaa.lawLruKeeps
open Go.ChangeShapes Go.WideShapes Go.ChangeAt Go.RowKit Go.Deep Go.Proofs.YtfbajampfiodeaaW.PrintWords Go.Proofs.YtfbajampfiodeaaW.PrintLast Go.Proofs.Ytfbajampfiodeaa.Open Go.Proofs.Ytfbajampfiodeaa.Op Go.Proofs.Ytfbajampfiodeaa.LruKeeps
open Go.ChangeMaps (open_string shut_string)
set_option linter.unusedVariables false
theorem own : ownKnob Try.prog.godebug = none := by kernel_rfl
theorem laidOut : laidOutB Try.prog = true := by kernel_rfl
theorem opens5 : OpenSl.Opens Try.prog 5 (Kd.int .u8) (fun b => (Lit.int .u8 b).wf = true) := by
  intro H enc W spare held fuel cs x hl h
  match cs, (show cs.length = 1 from hl) with
  | [c0], _ =>
    obtain ⟨a0, e0, _, w0⟩ := DataW.trod_int Try.underlying5 h
    obtain rfl := (List.cons.inj e0).1
    exact ⟨a0, rfl, w0⟩
set_option maxRecDepth 100000 in
theorem lifted (os : Os) (started : os.Started) (H : Type) (enc : TypeId × Value → H) :
    ReturnsInHanded {} Try.checked os 8 .any (Rows.lruKeepsSpec.pre6 enc Try.prog Try.f8 Rows.lruKeepsRow.domain false) (Rows.lruKeepsSpec.post enc Try.prog Try.f8 false true false false) := by
  refine returnsInHanded_of_change_sized (C := Try.checked) own started (by kernel_rfl) Try.func8
    (ChangeSpec.witness6 (enc := enc) (C := Try.checked) false ⟨#[], #[.int .i64 0, .slice none 0 0], []⟩ 8 (by kernel_rfl) (by kernel_rfl) (by kernel_rfl) (by kernel_rfl)) ?_
  intro W base args ds gs before hval0 hW hcnd hsz0 _
  have hval : ∀ (j : Nat) t v, Try.f8.params[j]? = some t → args[j]? = some v → Value.okWide Try.prog W .any base t v := hval0
  have hW' := hW
  obtain ⟨p, q, hA0, hV, rfl, hfz, hnd⟩ := hW
  have hA : DataW.TrodAll enc Try.prog W 0 (fun _ => true) true Try.f8.params.toList args.toList ds p := hA0
  rw [Try.params8] at hA hval
  obtain ⟨v0, vs0, d0, ds0, p0, q0, hargs, rfl, rfl, h0, r0⟩ := trodAll_cons hA
  obtain ⟨v1, vs1, d1, ds1, p1, q1, rfl, rfl, rfl, h1, r1⟩ := trodAll_cons r0
  obtain ⟨rfl, rfl, rfl⟩ := trodAll_nil r1
  obtain rfl : args = #[v0, v1] := by cases args; simp_all
  obtain ⟨rfl, rfl⟩ := trodVars_none hV
  have k0 := h0
  have lt0 : ∀ x ∈ p0, x.block < W.heap.size := by obtain ⟨m, hm⟩ := k0; exact DataW.trod_lt m _ _ _ hm
  obtain ⟨m, rfl⟩ := okWide_int Try.underlying3 (hval 0 3 v0 rfl rfl)
  obtain ⟨a1, len1, cap1, rfl⟩ := okWide_slice Try.underlying32 (hval 1 32 v1 rfl rfl)
  have k1 := h1
  have lt1 : ∀ x ∈ p1, x.block < W.heap.size := by obtain ⟨m, hm⟩ := k1; exact DataW.trod_lt m _ _ _ hm
  obtain ⟨l1, hn1, hr1, hc1, hm1, hw1⟩ := OpenSl.opens_slice (0 : Int) opens5 Try.underlying32 (by kernel_rfl) h1
  subst hn1
  clear hA0 hval0 hsz0
  refine (law_calls m a1 l1 cap1 W hr1 hc1 hm1 (fun b hb => bounds_u8 (hw1 b hb))).mono fun e W' ⟨he, bel⟩ => ?_
  subst he
  exact ⟨_, rfl, _, _, _, [], _, [], hW', trodAll_mk1 (shut_bool Try.underlying4 _), (trodAll_cons_mk (Below.trod laidOut (by kernel_rfl) (of_decide_eq_true (by kernel_rfl)) k0 bel lt0) (trodAll_cons_mk (Below.trod laidOut (by kernel_rfl) (of_decide_eq_true (by kernel_rfl)) k1 bel lt1) trodAll_mk0)), rfl, bel.frame _, fun h => by cases h⟩
theorem over : Rows.lruKeepsRow.holds Try.pinned (OpenSpec.ofChange Rows.lruKeepsSpec) :=
  OpenClaim.holds_of_wide 8 Try.f8 rfl rfl rfl rfl rfl rfl rfl ⟨rfl, rfl, rfl, rfl, rfl⟩ rfl rfl rfl rfl rfl (by kernel_rfl) Try.func8 (by kernel_rfl)
    (of_decide_eq_true (by kernel_rfl)) (by unfold Func.isWrapper; first | (rw [if_pos (by decide +kernel)]; kernel_rfl) | (rw [if_neg (by decide +kernel)]; exact ⟨rfl, rfl⟩))
    (fun os started H enc _ => lifted os started H enc)
theorem proved : Rows.LruKeepsSaid := over
#print axioms proved
end Go.Proofs.Ytfbajampfiodeaa.lawLruKeeps
namespace Go.Proofs.Ytfbajampfiodeaa
/-- The row, under a short name, for the claim. -/
theorem lruKeeps_holds : Rows.LruKeepsSaid := lawLruKeeps.proved
end Go.Proofs.Ytfbajampfiodeaa
