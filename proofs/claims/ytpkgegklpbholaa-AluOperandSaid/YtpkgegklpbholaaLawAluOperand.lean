/- PROVED HERE: for every instruction's fields and every number of 64 bits, 'Operand' is that number where the operation takes a register, and the immediate one with its sign where not. No condition but the kinds of the numbers. -/
import Derived.Test.YtpkgegklpbholaaRows
import Derived.Test.YtpkgegklpbholaaPAluOperandx1
import Derived.Test.YtpkgegklpbholaaPureAluOperand
import Derived.Test.YtpkgegklpbholaaAgg
import Derived.WalkKit
import Derived.ProofKit
import Derived.OpenShut
import Derived.ShutString
import Derived.ChangeOld
import Derived.Below
import Derived.Carry
import Derived.SizedLaws
namespace Go.Proofs.Ytpkgegklpbholaa.aluOperand
open Go.ChangeShapes Go.WideShapes Go.ChangeAt Go.RowKit Go.Proofs.Ytpkgegklpbholaa.Agg
set_option linter.unusedVariables false
theorem own : ownKnob Try.prog.godebug = none := by kernel_rfl
theorem laidOut : laidOutB Try.prog = true := by kernel_rfl
set_option maxRecDepth 100000 in
theorem lifted (os : Os) (started : os.Started) (H : Type) (enc : TypeId × Value → H) :
    ReturnsInHanded {} Try.checked os 11 .any (Rows.aluOperandSpec.pre6 enc Try.prog Try.f11 Rows.aluOperandRow.domain false) (Rows.aluOperandSpec.post enc Try.prog Try.f11 false true false false) := by
  refine returnsInHanded_of_change_sized (C := Try.checked) own started (by kernel_rfl) Try.func11
    (ChangeSpec.witness6 (enc := enc) (C := Try.checked) false ⟨#[], #[.agg #[.int .u8 0, .int .u8 0, .int .u8 0, .int .i16 0, .int .i32 0], .int .u64 0], []⟩ 8 (by kernel_rfl) (by kernel_rfl) (by kernel_rfl) (by kernel_rfl)) ?_
  intro W base args ds gs before hval0 hW hcnd hsz0 _
  have hval : ∀ (j : Nat) t v, Try.f11.params[j]? = some t → args[j]? = some v → Value.okWide Try.prog W .any base t v := hval0
  have hW' := hW
  obtain ⟨p, q, hA0, hV, rfl, hfz, hnd⟩ := hW
  have hA : DataW.TrodAll enc Try.prog W 0 (fun _ => true) true Try.f11.params.toList args.toList ds p := hA0
  rw [Try.params11] at hA hval
  obtain ⟨v0, vs0, d0, ds0, p0, q0, hargs, rfl, rfl, h0, r0⟩ := trodAll_cons hA
  obtain ⟨v1, vs1, d1, ds1, p1, q1, rfl, rfl, rfl, h1, r1⟩ := trodAll_cons r0
  obtain ⟨rfl, rfl, rfl⟩ := trodAll_nil r1
  obtain rfl : args = #[v0, v1] := by cases args; simp_all
  obtain ⟨rfl, rfl⟩ := trodVars_none hV
  have k0 := h0
  have lt0 : ∀ x ∈ p0, x.block < W.heap.size := by obtain ⟨m, hm⟩ := k0; exact DataW.trod_lt m _ _ _ hm
  obtain ⟨c0, c1, c2, c3, c4, y0, y1, y2, y3, y4, n, rfl, hd0, hp0, g0, g1, g2, g3, g4⟩ := open_agg5 Try.underlying24 (by kernel_rfl) (by kernel_rfl) (hval 0 24 v0 rfl rfl) h0
  obtain ⟨o, e0, _, wo⟩ := DataW.trod_int Try.underlying5 g0
  obtain ⟨d, e1, _, wd⟩ := DataW.trod_int Try.underlying5 g1
  obtain ⟨s, e2, _, ws⟩ := DataW.trod_int Try.underlying5 g2
  obtain ⟨f, e3, _, wf⟩ := DataW.trod_int Try.underlying22 g3
  obtain ⟨m, e4, _, wm⟩ := DataW.trod_int Try.underlying21 g4
  simp only [List.cons.injEq, and_true] at e0 e1 e2 e3 e4
  subst e0 e1 e2 e3 e4
  obtain ⟨a1, rfl, rfl, rfl, w1⟩ := open_int Try.underlying25 (hval 1 25 v1 rfl rfl) h1
  clear hA0 hval0 hsz0 h0 g0 g1 g2 g3 g4
  refine (PAluOperand.posternlaw05_AluOperand.calls 40 o d s f m a1 true W (Pure.AluOperand o d s f m a1 wo wm)).mono fun e W' ⟨he, bel⟩ => ?_
  subst he
  exact ⟨_, rfl, _, _, _, [], _, [], hW', trodAll_mk1 (shut_bool Try.underlying4 _), (trodAll_cons_mk (Below.trod laidOut (by kernel_rfl) (of_decide_eq_true (by kernel_rfl)) k0 bel lt0) (trodAll_cons_mk (shut_int Try.underlying25 w1) trodAll_mk0)), rfl, bel.frame _, fun h => by cases h⟩
theorem over : Rows.aluOperandRow.holds Try.pinned (OpenSpec.ofChange Rows.aluOperandSpec) :=
  OpenClaim.holds_of_wide 11 Try.f11 rfl rfl rfl rfl rfl rfl rfl ⟨rfl, rfl, rfl, rfl, rfl⟩ rfl rfl rfl rfl rfl (by kernel_rfl) Try.func11 (by kernel_rfl)
    (of_decide_eq_true (by kernel_rfl)) (by unfold Func.isWrapper; first | (rw [if_pos (by decide +kernel)]; kernel_rfl) | (rw [if_neg (by decide +kernel)]; exact ⟨rfl, rfl⟩))
    (fun os started H enc _ => lifted os started H enc)
theorem proved : Rows.AluOperandSaid := over
#print axioms proved
end Go.Proofs.Ytpkgegklpbholaa.aluOperand
namespace Go.Proofs.Ytpkgegklpbholaa
/-- The row, under a short name, for the claim. -/
theorem aluOperand_holds : Rows.AluOperandSaid := aluOperand.proved
end Go.Proofs.Ytpkgegklpbholaa
