/- PROVED HERE: for every list of instructions and every place: insn.Plain answers as the document's definition does. No condition but the kinds of the numbers. -/
import Derived.Test.YtiekhgllnpgjcaaRows
import Derived.Test.YtiekhgllnpgjcaaPInsnPlainx
import Derived.Test.YtiekhgllnpgjcaaPureInsnPlain
import Derived.Test.YtiekhgllnpgjcaaOpen
import Derived.Test.YtiekhgllnpgjcaaOpenSl
import Derived.Test.YtiekhgllnpgjcaaWSized
import Derived.WalkKit
import Derived.ProofKit
import Derived.OpenShut
import Derived.ShutString
import Derived.ChangeOld
import Derived.Below
import Derived.Carry
import Derived.SizedLaws
namespace Go.Proofs.Ytiekhgllnpgjcaa.insnPlain
open Go.ChangeShapes Go.WideShapes Go.ChangeAt Go.RowKit Go.Proofs.YtiekhgllnpgjcaaW.PrintWords Go.Proofs.YtiekhgllnpgjcaaW.PrintLast Go.Proofs.Ytiekhgllnpgjcaa.Open
open Go.ChangeMaps (open_string shut_string)
set_option linter.unusedVariables false
theorem own : ownKnob Try.prog.godebug = none := by kernel_rfl
theorem laidOut : laidOutB Try.prog = true := by kernel_rfl
def IsRow (k : IntKind) (w : World) (a : Option Addr) (len cap : Nat) (zs : List Int) : Prop :=
  (a = none ∧ len = 0 ∧ cap = 0 ∧ zs = []) ∨
  ∃ x, a = some x ∧ len ≤ cap ∧ cap ≤ maxLen ∧ zs.length = cap ∧ (∀ i, i < zs.length → w.cell? (x.add i) = some (.int k (zs.getD i 0))) ∧ ∀ n ∈ zs, (Lit.int k n).wf = true
/-- What reads as type 24 is told by its fields. -/
theorem opens24 : OpenSl.Opens Try.prog 24 PInsnPlain.k24 (fun s => (Lit.int .u8 s.f0).wf = true ∧ (Lit.int .u8 s.f1).wf = true ∧ (Lit.int .u8 s.f2).wf = true ∧ (Lit.int .i16 s.f3).wf = true ∧ (Lit.int .i32 s.f4).wf = true) := by
  intro H enc W spare held fuel cs x hl h
  match cs, (show cs.length = 5 from hl) with
  | [c0, c1, c2, c3, c4], _ =>
    obtain ⟨m0, y0, g0⟩ : ∃ m y, DataW.trod enc Try.prog W 0 spare held m 5 [c0] = some y := sub_struct (cs := [c0, c1, c2, c3, c4]) (o := 0) (s := 5) (c := 1) Try.underlying24 h 0 _ rfl (by kernel_rfl) rfl
    obtain ⟨m1, y1, g1⟩ : ∃ m y, DataW.trod enc Try.prog W 0 spare held m 5 [c1] = some y := sub_struct (cs := [c0, c1, c2, c3, c4]) (o := 1) (s := 5) (c := 1) Try.underlying24 h 1 _ rfl (by kernel_rfl) rfl
    obtain ⟨m2, y2, g2⟩ : ∃ m y, DataW.trod enc Try.prog W 0 spare held m 5 [c2] = some y := sub_struct (cs := [c0, c1, c2, c3, c4]) (o := 2) (s := 5) (c := 1) Try.underlying24 h 2 _ rfl (by kernel_rfl) rfl
    obtain ⟨m3, y3, g3⟩ : ∃ m y, DataW.trod enc Try.prog W 0 spare held m 22 [c3] = some y := sub_struct (cs := [c0, c1, c2, c3, c4]) (o := 3) (s := 22) (c := 1) Try.underlying24 h 3 _ rfl (by kernel_rfl) rfl
    obtain ⟨m4, y4, g4⟩ : ∃ m y, DataW.trod enc Try.prog W 0 spare held m 21 [c4] = some y := sub_struct (cs := [c0, c1, c2, c3, c4]) (o := 4) (s := 21) (c := 1) Try.underlying24 h 4 _ rfl (by kernel_rfl) rfl
    obtain ⟨a0, e0, _, w0⟩ := DataW.trod_int Try.underlying5 g0
    obtain ⟨a1, e1, _, w1⟩ := DataW.trod_int Try.underlying5 g1
    obtain ⟨a2, e2, _, w2⟩ := DataW.trod_int Try.underlying5 g2
    obtain ⟨a3, e3, _, w3⟩ := DataW.trod_int Try.underlying22 g3
    obtain ⟨a4, e4, _, w4⟩ := DataW.trod_int Try.underlying21 g4
    obtain rfl := (List.cons.inj e0).1
    obtain rfl := (List.cons.inj e1).1
    obtain rfl := (List.cons.inj e2).1
    obtain rfl := (List.cons.inj e3).1
    obtain rfl := (List.cons.inj e4).1
    exact ⟨⟨a0, a1, a2, a3, a4⟩, PInsnPlain.k24_mk W ⟨a0, a1, a2, a3, a4⟩, w0, w1, w2, w3, w4⟩
set_option maxRecDepth 100000 in
theorem lifted (os : Os) (started : os.Started) (H : Type) (enc : TypeId × Value → H) :
    ReturnsInHanded {} Try.checked os 7 .any (Rows.insnPlainSpec.pre6 enc Try.prog Try.f7 Rows.insnPlainRow.domain false) (Rows.insnPlainSpec.post enc Try.prog Try.f7 false true false false) := by
  refine returnsInHanded_of_change_sized (C := Try.checked) own started (by kernel_rfl) Try.func7
    (ChangeSpec.witness6 (enc := enc) (C := Try.checked) false ⟨#[], #[.slice none 0 0, .int .i64 0], []⟩ 8 (by kernel_rfl) (by kernel_rfl) (by kernel_rfl) (by kernel_rfl)) ?_
  intro W base args ds gs before hval0 hW hcnd hsz0 _
  have hsz : (DataW.weightsEach Try.prog (Try.f7.params.toList ++ Rows.insnPlainSpec.plain.varTypes Try.prog) (ds ++ gs)).all (· ≤ reachBytes) = true := hsz0
  have hval : ∀ (j : Nat) t v, Try.f7.params[j]? = some t → args[j]? = some v → Value.okWide Try.prog W .any base t v := hval0
  have hW' := hW
  obtain ⟨p, q, hA0, hV, rfl, hfz, hnd⟩ := hW
  have hA : DataW.TrodAll enc Try.prog W 0 (fun _ => true) true Try.f7.params.toList args.toList ds p := hA0
  rw [Try.params7] at hA hval hsz
  obtain ⟨v0, vs0, d0, ds0, p0, q0, hargs, rfl, rfl, h0, r0⟩ := trodAll_cons hA
  obtain ⟨v1, vs1, d1, ds1, p1, q1, rfl, rfl, rfl, h1, r1⟩ := trodAll_cons r0
  obtain ⟨rfl, rfl, rfl⟩ := trodAll_nil r1
  obtain rfl : args = #[v0, v1] := by cases args; simp_all
  obtain ⟨rfl, rfl⟩ := trodVars_none hV
  obtain ⟨a0, len0, cap0, rfl⟩ := okWide_slice Try.underlying27 (hval 0 27 v0 rfl rfl)
  have k0 := h0
  have lt0 : ∀ x ∈ p0, x.block < W.heap.size := by obtain ⟨m, hm⟩ := k0; exact DataW.trod_lt m _ _ _ hm
  have y0 := OpenSl.sized_len hsz (j := 0) (t := 27) rfl rfl Try.underlying27 h0
  rw [show Try.prog.bytesOf 24 = 12 by kernel_rfl] at y0
  obtain ⟨l0, hn0, hr0, hc0, hm0, hw0⟩ := OpenSl.opens_slice (PInsnPlain.z24) opens24 Try.underlying27 (by kernel_rfl) h0
  subst hn0
  obtain ⟨a1, rfl, rfl, rfl, w1⟩ := open_int Try.underlying3 (hval 1 3 v1 rfl rfl) h1
  clear hA0 hval0 hsz0 hsz
  obtain ⟨k, hk⟩ := Pure.InsnPlain l0 a1 y0 hw0 w1
  refine (PInsnPlain.posternlaw02_InsnPlain.calls k _ _ l0 a1 true W ⟨rfl⟩ hr0 hc0 hk).mono fun e W' ⟨he, bel⟩ => ?_
  subst he
  exact ⟨_, rfl, _, _, _, [], _, [], hW', trodAll_mk1 (shut_bool Try.underlying4 _), (trodAll_cons_mk (Below.trod laidOut (by kernel_rfl) (of_decide_eq_true (by kernel_rfl)) k0 bel lt0) (trodAll_cons_mk (shut_int Try.underlying3 w1) trodAll_mk0)), rfl, bel.frame _, fun h => by cases h⟩
theorem over : Rows.insnPlainRow.holds Try.pinned (OpenSpec.ofChange Rows.insnPlainSpec) :=
  OpenClaim.holds_of_wide 7 Try.f7 rfl rfl rfl rfl rfl rfl rfl ⟨rfl, rfl, rfl, rfl, rfl⟩ rfl rfl rfl rfl rfl (by kernel_rfl) Try.func7 (by kernel_rfl)
    (of_decide_eq_true (by kernel_rfl)) (by unfold Func.isWrapper; first | (rw [if_pos (by decide +kernel)]; kernel_rfl) | (rw [if_neg (by decide +kernel)]; exact ⟨rfl, rfl⟩))
    (fun os started H enc _ => lifted os started H enc)
theorem proved : Rows.InsnPlainSaid := over
#print axioms proved
end Go.Proofs.Ytiekhgllnpgjcaa.insnPlain
namespace Go.Proofs.Ytiekhgllnpgjcaa
/-- The row, under a short name, for the claim. -/
theorem insnPlain_holds : Rows.InsnPlainSaid := insnPlain.proved
end Go.Proofs.Ytiekhgllnpgjcaa
