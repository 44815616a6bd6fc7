/- PROVED HERE: for every two scripts of calls: the copy of a memory answers the second as the document says, and leaves the first memory as it was. No condition but the kinds of the arguments. -/
import Derived.Test.YtpjgaacdohiomaaRows
import Derived.Test.YtpjgaacdohiomaaMemCopies
import Derived.Test.YtpjgaacdohiomaaOpen
import Derived.Test.YtpjgaacdohiomaaOpenSl
import Derived.WalkKit
import Derived.ProofKit
import Derived.OpenShut
import Derived.ShutString
import Derived.ChangeOld
import Derived.Below
import Derived.Carry
import Derived.SizedLaws
namespace Go.Proofs.Ytpjgaacdohiomaa.lawMemCopies
open Go.ChangeShapes Go.WideShapes Go.ChangeAt Go.RowKit Go.Deep Go.Proofs.YtpjgaacdohiomaaW.PrintWords Go.Proofs.YtpjgaacdohiomaaW.PrintLast Go.Proofs.Ytpjgaacdohiomaa.Open Go.Proofs.Ytpjgaacdohiomaa.Mem1 Go.Proofs.Ytpjgaacdohiomaa.MemOp Go.Proofs.Ytpjgaacdohiomaa.MemCopies
open Go.ChangeMaps (open_string shut_string)
set_option linter.unusedVariables false
theorem own : ownKnob Try.prog.godebug = none := by kernel_rfl
theorem laidOut : laidOutB Try.prog = true := by kernel_rfl
theorem opens5 : OpenSl.Opens Try.prog 5 (Kd.int .u8) (fun b => (Lit.int .u8 b).wf = true) := by
  intro H enc W spare held fuel cs x hl h
  match cs, (show cs.length = 1 from hl) with
  | [c0], _ =>
    obtain ⟨a0, e0, _, w0⟩ := DataW.trod_int Try.underlying5 h
    obtain rfl := (List.cons.inj e0).1
    exact ⟨a0, rfl, w0⟩
/-- Bytes: a slice. -/
theorem opens36 : OpenSl.Opens Try.prog 36 (Kd.slice 5 (Kd.int .u8)) (fun l => ∀ b ∈ l, (Lit.int .u8 b).wf = true) := by
  intro H enc W spare held fuel cs x hl h
  match cs, (show cs.length = 1 from hl) with
  | [c0], _ =>
    have hs : ∃ a len cap, c0 = .slice a len cap := by
      rcases open_slice Try.underlying36 h with ⟨hcs, _⟩ | ⟨x, l, c, m, n, E, Pl, hcs, _⟩
      · exact ⟨_, _, _, (List.cons.inj hcs).1⟩
      · exact ⟨_, _, _, (List.cons.inj hcs).1⟩
    obtain ⟨a, len, cap, rfl⟩ := hs
    obtain ⟨xs, h1, h2, h3, _, h5⟩ := OpenSl.opens_slice (z := (0 : Int)) opens5 Try.underlying36 (by kernel_rfl) (D := x.1) (ps := x.2) (H := H) (enc := enc) (W := W) (spare := spare) (held := held) ⟨fuel, h⟩
    subst h1
    exact ⟨xs, ⟨a, cap, rfl, h3, h2⟩, h5⟩
/-- A call of the script. -/
theorem opensOp : OpenSl.Opens Try.prog 54 kOp (fun p => (Lit.int .i64 p.1).wf = true ∧ (Lit.int .u64 p.2.1).wf = true ∧ (Lit.int .i64 p.2.2.1).wf = true ∧ (Lit.int .i64 p.2.2.2.1).wf = true ∧ (Lit.int .u64 p.2.2.2.2.1).wf = true ∧ (∀ b ∈ p.2.2.2.2.2, (Lit.int .u8 b).wf = true)) := by
  intro H enc W spare held fuel cs x hl h
  match cs, (show cs.length = 6 from hl) with
  | [c0, c1, c2, c3, c4, c5], _ =>
    obtain ⟨m0, y0, g0⟩ : ∃ m y, DataW.trod enc Try.prog W 0 spare held m 3 [c0] = some y := sub_struct (cs := [c0, c1, c2, c3, c4, c5]) (o := 0) (s := 3) (c := 1) Try.underlying54 h 0 _ rfl (by kernel_rfl) rfl
    obtain ⟨m1, y1, g1⟩ : ∃ m y, DataW.trod enc Try.prog W 0 spare held m 22 [c1] = some y := sub_struct (cs := [c0, c1, c2, c3, c4, c5]) (o := 1) (s := 22) (c := 1) Try.underlying54 h 1 _ rfl (by kernel_rfl) rfl
    obtain ⟨m2, y2, g2⟩ : ∃ m y, DataW.trod enc Try.prog W 0 spare held m 3 [c2] = some y := sub_struct (cs := [c0, c1, c2, c3, c4, c5]) (o := 2) (s := 3) (c := 1) Try.underlying54 h 2 _ rfl (by kernel_rfl) rfl
    obtain ⟨m3, y3, g3⟩ : ∃ m y, DataW.trod enc Try.prog W 0 spare held m 3 [c3] = some y := sub_struct (cs := [c0, c1, c2, c3, c4, c5]) (o := 3) (s := 3) (c := 1) Try.underlying54 h 3 _ rfl (by kernel_rfl) rfl
    obtain ⟨m4, y4, g4⟩ : ∃ m y, DataW.trod enc Try.prog W 0 spare held m 22 [c4] = some y := sub_struct (cs := [c0, c1, c2, c3, c4, c5]) (o := 4) (s := 22) (c := 1) Try.underlying54 h 4 _ rfl (by kernel_rfl) rfl
    obtain ⟨m5, y5, g5⟩ : ∃ m y, DataW.trod enc Try.prog W 0 spare held m 36 [c5] = some y := sub_struct (cs := [c0, c1, c2, c3, c4, c5]) (o := 5) (s := 36) (c := 1) Try.underlying54 h 5 _ rfl (by kernel_rfl) rfl
    obtain ⟨a0, e0, _, w0⟩ := DataW.trod_int Try.underlying3 g0
    obtain ⟨a1, e1, _, w1⟩ := DataW.trod_int Try.underlying22 g1
    obtain ⟨a2, e2, _, w2⟩ := DataW.trod_int Try.underlying3 g2
    obtain ⟨a3, e3, _, w3⟩ := DataW.trod_int Try.underlying3 g3
    obtain ⟨a4, e4, _, w4⟩ := DataW.trod_int Try.underlying22 g4
    obtain ⟨l, hK, hb⟩ := opens36 rfl g5
    obtain rfl := (List.cons.inj e0).1
    obtain rfl := (List.cons.inj e1).1
    obtain rfl := (List.cons.inj e2).1
    obtain rfl := (List.cons.inj e3).1
    obtain rfl := (List.cons.inj e4).1
    exact ⟨(a0, a1, a2, a3, a4, l), ⟨_, _, rfl, rfl, _, _, rfl, rfl, _, _, rfl, rfl, _, _, rfl, rfl, _, _, rfl, rfl, hK⟩, w0, w1, w2, w3, w4, hb⟩
theorem opOk {p : OpT} (h : (Lit.int .i64 p.1).wf = true ∧ (Lit.int .u64 p.2.1).wf = true ∧ (Lit.int .i64 p.2.2.1).wf = true ∧ (Lit.int .i64 p.2.2.2.1).wf = true ∧ (Lit.int .u64 p.2.2.2.2.1).wf = true ∧ (∀ b ∈ p.2.2.2.2.2, (Lit.int .u8 b).wf = true)) : OpOk p := by
  obtain ⟨h0, h1, h2, h3, h4, h5⟩ := h
  have k1 := bounds_u64 h1
  have k2 := bounds_i64 h2
  have k3 := bounds_i64 h3
  have k4 := bounds_u64 h4
  exact ⟨by omega, by omega, by omega, by omega, fun b hb => by have := bounds_u8 (h5 b hb); omega⟩
set_option maxRecDepth 100000 in
theorem lifted (os : Os) (started : os.Started) (H : Type) (enc : TypeId × Value → H) :
    ReturnsInHanded {} Try.checked os 7 .any (Rows.memCopiesSpec.pre6 enc Try.prog Try.f7 Rows.memCopiesRow.domain false) (Rows.memCopiesSpec.post enc Try.prog Try.f7 false true false false) := by
  refine returnsInHanded_of_change_sized (C := Try.checked) own started (by kernel_rfl) Try.func7
    (ChangeSpec.witness6 (enc := enc) (C := Try.checked) false ⟨#[], #[.slice none 0 0, .slice none 0 0], []⟩ 8 (by kernel_rfl) (by kernel_rfl) (by kernel_rfl) (by kernel_rfl)) ?_
  intro W base args ds gs before hval0 hW hcnd hsz0 _
  have hval : ∀ (j : Nat) t v, Try.f7.params[j]? = some t → args[j]? = some v → Value.okWide Try.prog W .any base t v := hval0
  have hW' := hW
  obtain ⟨p, q, hA0, hV, rfl, hfz, hnd⟩ := hW
  have hA : DataW.TrodAll enc Try.prog W 0 (fun _ => true) true Try.f7.params.toList args.toList ds p := hA0
  rw [Try.params7] at hA hval
  obtain ⟨v0, vs0, d0, ds0, p0, q0, hargs, rfl, rfl, h0, r0⟩ := trodAll_cons hA
  obtain ⟨v1, vs1, d1, ds1, p1, q1, rfl, rfl, rfl, h1, r1⟩ := trodAll_cons r0
  obtain ⟨rfl, rfl, rfl⟩ := trodAll_nil r1
  obtain rfl : args = #[v0, v1] := by cases args; simp_all
  obtain ⟨rfl, rfl⟩ := trodVars_none hV
  obtain ⟨a0, len0, cap0, rfl⟩ := okWide_slice Try.underlying48 (hval 0 48 v0 rfl rfl)
  have k0 := h0
  have lt0 : ∀ x ∈ p0, x.block < W.heap.size := by obtain ⟨m, hm⟩ := k0; exact DataW.trod_lt m _ _ _ hm
  obtain ⟨l0, hn0, hr0, hc0, hm0, hw0⟩ := OpenSl.opens_slice ((0, 0, 0, 0, 0, []) : OpT) opensOp Try.underlying48 (by kernel_rfl) h0
  subst hn0
  obtain ⟨a1, len1, cap1, rfl⟩ := okWide_slice Try.underlying48 (hval 1 48 v1 rfl rfl)
  have k1 := h1
  have lt1 : ∀ x ∈ p1, x.block < W.heap.size := by obtain ⟨m, hm⟩ := k1; exact DataW.trod_lt m _ _ _ hm
  obtain ⟨l1, hn1, hr1, hc1, hm1, hw1⟩ := OpenSl.opens_slice ((0, 0, 0, 0, 0, []) : OpT) opensOp Try.underlying48 (by kernel_rfl) h1
  subst hn1
  clear hA0 hval0 hsz0
  refine (law_calls a0 l0 cap0 a1 l1 cap1 W hr0 hc0 hm0 (fun q hq => opOk (hw0 q hq)) hr1 hc1 hm1 (fun q hq => opOk (hw1 q hq))).mono fun e W' ⟨he, bel⟩ => ?_
  subst he
  exact ⟨_, rfl, _, _, _, [], _, [], hW', trodAll_mk1 (shut_bool Try.underlying4 _), (trodAll_cons_mk (Below.trod laidOut (by kernel_rfl) (of_decide_eq_true (by kernel_rfl)) k0 bel lt0) (trodAll_cons_mk (Below.trod laidOut (by kernel_rfl) (of_decide_eq_true (by kernel_rfl)) k1 bel lt1) trodAll_mk0)), rfl, bel.frame _, fun h => by cases h⟩
theorem over : Rows.memCopiesRow.holds Try.pinned (OpenSpec.ofChange Rows.memCopiesSpec) :=
  OpenClaim.holds_of_wide 7 Try.f7 rfl rfl rfl rfl rfl rfl rfl ⟨rfl, rfl, rfl, rfl, rfl⟩ rfl rfl rfl rfl rfl (by kernel_rfl) Try.func7 (by kernel_rfl)
    (of_decide_eq_true (by kernel_rfl)) (by unfold Func.isWrapper; first | (rw [if_pos (by decide +kernel)]; kernel_rfl) | (rw [if_neg (by decide +kernel)]; exact ⟨rfl, rfl⟩))
    (fun os started H enc _ => lifted os started H enc)
theorem proved : Rows.MemCopiesSaid := over
#print axioms proved
end Go.Proofs.Ytpjgaacdohiomaa.lawMemCopies
namespace Go.Proofs.Ytpjgaacdohiomaa
/-- The row, under a short name, for the claim. -/
theorem memCopies_holds : Rows.MemCopiesSaid := lawMemCopies.proved
end Go.Proofs.Ytpjgaacdohiomaa
