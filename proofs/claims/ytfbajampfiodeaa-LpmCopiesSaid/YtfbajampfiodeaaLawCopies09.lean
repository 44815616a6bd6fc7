/- PROVED HERE: for every sizes and every two scripts of calls: a new index of these sizes is refused just if the document says so; else a copy that was made behind the first script goes on by itself with the second one as the document says, while the lists of keys that it answers are written over, and at the end both, the first index and its copy, list what the document says; a nil index refuses every call. No condition but the kinds of the arguments. -/
import Derived.Test.YtfbajampfiodeaaRows
import Derived.Test.YtfbajampfiodeaaCopies09
import Derived.Test.YtfbajampfiodeaaOpen
import Derived.Test.YtfbajampfiodeaaOpenSl
import Derived.WalkKit
import Derived.ProofKit
import Derived.OpenShut
import Derived.ShutString
import Derived.ChangeOld
import Derived.Below
import Derived.Carry
import Derived.SizedLaws
namespace Go.Proofs.Ytfbajampfiodeaa.lawCopies09
open Go.ChangeShapes Go.WideShapes Go.ChangeAt Go.RowKit Go.Deep Go.Proofs.YtfbajampfiodeaaW.PrintWords Go.Proofs.YtfbajampfiodeaaW.PrintLast Go.Proofs.Ytfbajampfiodeaa.Open Go.Proofs.Ytfbajampfiodeaa.Op Go.Proofs.Ytfbajampfiodeaa.Copies09
open Go.ChangeMaps (open_string shut_string)
set_option linter.unusedVariables false
theorem own : ownKnob Try.prog.godebug = none := by kernel_rfl
theorem laidOut : laidOutB Try.prog = true := by kernel_rfl
theorem opens5 : OpenSl.Opens Try.prog 5 (Kd.int .u8) (fun b => (Lit.int .u8 b).wf = true) := by
  intro H enc W spare held fuel cs x hl h
  match cs, (show cs.length = 1 from hl) with
  | [c0], _ =>
    obtain ⟨a0, e0, _, w0⟩ := DataW.trod_int Try.underlying5 h
    obtain rfl := (List.cons.inj e0).1
    exact ⟨a0, rfl, w0⟩
/-- A key: a slice of bytes. -/
theorem opens32 : OpenSl.Opens Try.prog 32 (Kd.slice 5 (Kd.int .u8)) (fun l => ∀ b ∈ l, (Lit.int .u8 b).wf = true) := by
  intro H enc W spare held fuel cs x hl h
  match cs, (show cs.length = 1 from hl) with
  | [c0], _ =>
    have hs : ∃ a len cap, c0 = .slice a len cap := by
      rcases open_slice Try.underlying32 h with ⟨hcs, _⟩ | ⟨x, l, c, m, n, E, Pl, hcs, _⟩
      · exact ⟨_, _, _, (List.cons.inj hcs).1⟩
      · exact ⟨_, _, _, (List.cons.inj hcs).1⟩
    obtain ⟨a, len, cap, rfl⟩ := hs
    obtain ⟨xs, h1, h2, h3, _, h5⟩ := OpenSl.opens_slice (z := (0 : Int)) opens5 Try.underlying32 (by kernel_rfl) (D := x.1) (ps := x.2) (H := H) (enc := enc) (W := W) (spare := spare) (held := held) ⟨fuel, h⟩
    subst h1
    exact ⟨xs, ⟨a, cap, rfl, h3, h2⟩, h5⟩
/-- A call of the script. -/
theorem opensOp : OpenSl.Opens Try.prog 79 kOp (fun p => (Lit.int .i64 p.1).wf = true ∧ (∀ b ∈ p.2.1, (Lit.int .u8 b).wf = true) ∧ (Lit.int .u64 p.2.2).wf = true) := by
  intro H enc W spare held fuel cs x hl h
  match cs, (show cs.length = 3 from hl) with
  | [c0, c1, c2], _ =>
    obtain ⟨m0, y0, g0⟩ : ∃ m y, DataW.trod enc Try.prog W 0 spare held m 3 [c0] = some y := sub_struct (cs := [c0, c1, c2]) (o := 0) (s := 3) (c := 1) Try.underlying79 h 0 _ rfl (by kernel_rfl) rfl
    obtain ⟨m1, y1, g1⟩ : ∃ m y, DataW.trod enc Try.prog W 0 spare held m 32 [c1] = some y := sub_struct (cs := [c0, c1, c2]) (o := 1) (s := 32) (c := 1) Try.underlying79 h 1 _ rfl (by kernel_rfl) rfl
    obtain ⟨m2, y2, g2⟩ : ∃ m y, DataW.trod enc Try.prog W 0 spare held m 33 [c2] = some y := sub_struct (cs := [c0, c1, c2]) (o := 2) (s := 33) (c := 1) Try.underlying79 h 2 _ rfl (by kernel_rfl) rfl
    obtain ⟨a0, e0, _, w0⟩ := DataW.trod_int Try.underlying3 g0
    obtain ⟨a2, e2, _, w2⟩ := DataW.trod_int Try.underlying33 g2
    obtain ⟨l, hK, hb⟩ := opens32 rfl g1
    obtain rfl := (List.cons.inj e0).1
    obtain rfl := (List.cons.inj e2).1
    exact ⟨(a0, l, a2), ⟨_, _, rfl, rfl, _, _, rfl, hK, rfl⟩, w0, hb, w2⟩

set_option maxRecDepth 100000 in
theorem open_sizes {H : Type} {enc : TypeId × Value → H} {W : World} {base : Nat} {spare : Nat → Bool} {held : Bool} {v : Value} {D : DataW H} {ps : List MemPlace} (hv : Value.okWide Try.prog W .any base 22 v) (h : DataW.Trod enc Try.prog W 0 spare held 22 v D ps) : ∃ a b : Int, v = .agg #[.int .i64 a, .int .i64 b] := by
  obtain ⟨cs, rfl, hsz⟩ := okWide_agg (P := Try.prog) (t := 22) (r := .any) (b0 := base) (w := W) (by kernel_rfl) hv
  obtain ⟨c0, c1, rfl⟩ := arr2 (hsz.trans (by kernel_rfl))
  obtain ⟨fuel, hf⟩ := h
  have e1 : Try.prog.cellsOf 3 = 1 := by kernel_rfl
  obtain ⟨m0, y0, g0⟩ := sub_array (cs' := [c0]) Try.underlying22 hf 0 (by decide) (by rw [e1]; rfl)
  obtain ⟨m1, y1, g1⟩ := sub_array (cs' := [c1]) Try.underlying22 hf 1 (by decide) (by rw [e1]; rfl)
  obtain ⟨a0, q0, _, _⟩ := DataW.trod_int Try.underlying3 g0
  obtain ⟨a1, q1, _, _⟩ := DataW.trod_int Try.underlying3 g1
  obtain rfl := (List.cons.inj q0).1
  obtain rfl := (List.cons.inj q1).1
  exact ⟨a0, a1, rfl⟩
set_option maxRecDepth 100000 in
theorem lifted (os : Os) (started : os.Started) (H : Type) (enc : TypeId × Value → H) :
    ReturnsInHanded {} Try.checked os 15 .any (Rows.lpmCopiesSpec.pre6 enc Try.prog Try.f15 Rows.lpmCopiesRow.domain false) (Rows.lpmCopiesSpec.post enc Try.prog Try.f15 false true false false) := by
  refine returnsInHanded_of_change_sized (C := Try.checked) own started (by kernel_rfl) Try.func15
    (ChangeSpec.witness6 (enc := enc) (C := Try.checked) false ⟨#[], #[.agg #[.int .i64 0, .int .i64 0], .slice none 0 0, .slice none 0 0], []⟩ 8 (by kernel_rfl) (by kernel_rfl) (by kernel_rfl) (by kernel_rfl)) ?_
  intro W base args ds gs before hval0 hW hcnd hsz0 _
  have hval : ∀ (j : Nat) t v, Try.f15.params[j]? = some t → args[j]? = some v → Value.okWide Try.prog W .any base t v := hval0
  have hW' := hW
  obtain ⟨p, q, hA0, hV, rfl, hfz, hnd⟩ := hW
  have hA : DataW.TrodAll enc Try.prog W 0 (fun _ => true) true Try.f15.params.toList args.toList ds p := hA0
  rw [Try.params15] at hA hval
  obtain ⟨v0, vs0, d0, ds0, p0, q0, hargs, rfl, rfl, h0, r0⟩ := trodAll_cons hA
  obtain ⟨v1, vs1, d1, ds1, p1, q1, rfl, rfl, rfl, h1, r1⟩ := trodAll_cons r0
  obtain ⟨v2, vs2, d2, ds2, p2, q2, rfl, rfl, rfl, h2, r2⟩ := trodAll_cons r1
  obtain ⟨rfl, rfl, rfl⟩ := trodAll_nil r2
  obtain rfl : args = #[v0, v1, v2] := by cases args; simp_all
  obtain ⟨rfl, rfl⟩ := trodVars_none hV
  have k0 := h0
  have lt0 : ∀ x ∈ p0, x.block < W.heap.size := by obtain ⟨m, hm⟩ := k0; exact DataW.trod_lt m _ _ _ hm
  obtain ⟨s, m, rfl⟩ := open_sizes (hval 0 22 v0 rfl rfl) h0
  obtain ⟨a1, len1, cap1, rfl⟩ := okWide_slice Try.underlying78 (hval 1 78 v1 rfl rfl)
  have k1 := h1
  have lt1 : ∀ x ∈ p1, x.block < W.heap.size := by obtain ⟨m, hm⟩ := k1; exact DataW.trod_lt m _ _ _ hm
  obtain ⟨l1, hn1, hr1, hc1, hm1, hw1⟩ := OpenSl.opens_slice ((0, [], 0) : Int × List Int × Int) opensOp Try.underlying78 (by kernel_rfl) h1
  subst hn1
  obtain ⟨a2, len2, cap2, rfl⟩ := okWide_slice Try.underlying78 (hval 2 78 v2 rfl rfl)
  have k2 := h2
  have lt2 : ∀ x ∈ p2, x.block < W.heap.size := by obtain ⟨m, hm⟩ := k2; exact DataW.trod_lt m _ _ _ hm
  obtain ⟨l2, hn2, hr2, hc2, hm2, hw2⟩ := OpenSl.opens_slice ((0, [], 0) : Int × List Int × Int) opensOp Try.underlying78 (by kernel_rfl) h2
  subst hn2
  clear hA0 hval0 hsz0
  refine (law_calls s m a1 a2 l1 l2 cap1 cap2 W hr1 hc1 hm1 (fun q hq b hb => bounds_u8 ((hw1 q hq).2.1 b hb)) hr2 hc2 hm2 (fun q hq b hb => bounds_u8 ((hw2 q hq).2.1 b hb))).mono fun e W' ⟨he, bel⟩ => ?_
  subst he
  exact ⟨_, rfl, _, _, _, [], _, [], hW', trodAll_mk1 (shut_bool Try.underlying4 _), (trodAll_cons_mk (Below.trod laidOut (by kernel_rfl) (of_decide_eq_true (by kernel_rfl)) k0 bel lt0) (trodAll_cons_mk (Below.trod laidOut (by kernel_rfl) (of_decide_eq_true (by kernel_rfl)) k1 bel lt1) (trodAll_cons_mk (Below.trod laidOut (by kernel_rfl) (of_decide_eq_true (by kernel_rfl)) k2 bel lt2) trodAll_mk0))), rfl, bel.frame _, fun h => by cases h⟩
theorem over : Rows.lpmCopiesRow.holds Try.pinned (OpenSpec.ofChange Rows.lpmCopiesSpec) :=
  OpenClaim.holds_of_wide 15 Try.f15 rfl rfl rfl rfl rfl rfl rfl ⟨rfl, rfl, rfl, rfl, rfl⟩ rfl rfl rfl rfl rfl (by kernel_rfl) Try.func15 (by kernel_rfl)
    (of_decide_eq_true (by kernel_rfl)) (by unfold Func.isWrapper; first | (rw [if_pos (by decide +kernel)]; kernel_rfl) | (rw [if_neg (by decide +kernel)]; exact ⟨rfl, rfl⟩))
    (fun os started H enc _ => lifted os started H enc)
theorem proved : Rows.LpmCopiesSaid := over
#print axioms proved
end Go.Proofs.Ytfbajampfiodeaa.lawCopies09
namespace Go.Proofs.Ytfbajampfiodeaa
/-- The row, under a short name, for the claim. -/
theorem lpmCopies_holds : Rows.LpmCopiesSaid := lawCopies09.proved
end Go.Proofs.Ytfbajampfiodeaa
