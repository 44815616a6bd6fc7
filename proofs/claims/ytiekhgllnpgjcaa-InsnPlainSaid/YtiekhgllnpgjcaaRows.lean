/-
  No cell of these rows narrows 'for every input' (looked for: loops, veiled, ifaces, maps, wideKeys, modest, calm, conditions, laid).
  DERIVED. THE GIVEN ROWS OF THIS SEAT. 10 by the template 'for every input the law returns true; each argument reads behind the call as it read before'; 0 by the template 'total and deterministic' (their statements: YtiekhgllnpgjcaaTotals.lean).
  GIVEN WITH THE SEED: the statements are not yours to turn. If you find one false, say at which input.
  Laid BY PROGRAM, IN A SANDBOX (cutbox-rows.mjs): the forced cells as the released guide's own fill.sh prints them over the translation 899d1d2df7475f87… (all of the seat's roots in one cut). By AI agents, Wed Nov 11 2026. No macro, syntax, notation, axiom, sorry.
-/
import Derived.Test.YtiekhgllnpgjcaaChecked
import GoSem.Claim
import GoSem.ClaimJoined
import GoSem.ClaimMapViews
import Derived.JoinedTies
import Derived.KernelRfl
namespace Go.Proofs.Ytiekhgllnpgjcaa
/- THE CELL 'sum', in the pinned program and in every row, IS THE sha256 OF THE DUMP (.gsa) THAT YtiekhgllnpgjcaaProg.lean LOADS. Nothing in Lean hashes anything: it is a label: what it is worth is what the hold of that sum in a sandbox is worth. -/
noncomputable def Try.pinned : Pinned := { name := "ytiekhgllnpgjcaa", sum := "899d1d2df7475f872e9d3b484a15939b4dd244531c2c880dd7c23e9fdbe3a63e", checked := Try.checked }
namespace Rows
def none {H : Type} : Left H := { results := [], args := [] }

/-- 'posternlaw02.InsnLongs': WHATEVER THE INPUT: true; the input reads as it did. -/
def insnLongsSpec : ChangeSpec := { name := "insnLongs", fn := fun _ => fun
  | [d1, d2, d3] => { results := [.lit (.bool true)], args := [d1, d2, d3] }
  | _ => none }
def insnLongsRow : OpenClaim := { program := "ytiekhgllnpgjcaa", sum := "899d1d2df7475f872e9d3b484a15939b4dd244531c2c880dd7c23e9fdbe3a63e", func := "postern/posternlaw02.InsnLongs", spec := "insnLongs", inPlace := ["internal/bytealg.IndexByteString"], apart := false }
def InsnLongsSaid : Prop := insnLongsRow.holds Try.pinned (OpenSpec.ofChange insnLongsSpec)

/-- ITS FALSE NEIGHBOUR: 'it returns false'. Refute it at one input. -/
def insnLongsWrong : ChangeSpec := { name := "insnLongs", fn := fun _ => fun
  | [d1, d2, d3] => { results := [.lit (.bool false)], args := [d1, d2, d3] }
  | _ => none }
def InsnLongsWrongFalsely : Prop := insnLongsRow.holds Try.pinned (OpenSpec.ofChange insnLongsWrong)

/-- 'posternlaw02.InsnOps': WHATEVER THE INPUT: true; the input reads as it did. -/
def insnOpsSpec : ChangeSpec := { name := "insnOps", fn := fun _ => fun
  | [d] => { results := [.lit (.bool true)], args := [d] }
  | _ => none }
def insnOpsRow : OpenClaim := { program := "ytiekhgllnpgjcaa", sum := "899d1d2df7475f872e9d3b484a15939b4dd244531c2c880dd7c23e9fdbe3a63e", func := "postern/posternlaw02.InsnOps", spec := "insnOps", inPlace := ["internal/bytealg.IndexByteString"], apart := false }
def InsnOpsSaid : Prop := insnOpsRow.holds Try.pinned (OpenSpec.ofChange insnOpsSpec)

/-- ITS FALSE NEIGHBOUR: 'it returns false'. Refute it at one input. -/
def insnOpsWrong : ChangeSpec := { name := "insnOps", fn := fun _ => fun
  | [d] => { results := [.lit (.bool false)], args := [d] }
  | _ => none }
def InsnOpsWrongFalsely : Prop := insnOpsRow.holds Try.pinned (OpenSpec.ofChange insnOpsWrong)

/-- 'posternlaw02.InsnBytes': WHATEVER THE INPUT: true; the input reads as it did. -/
def insnBytesSpec : ChangeSpec := { name := "insnBytes", fn := fun _ => fun
  | [d] => { results := [.lit (.bool true)], args := [d] }
  | _ => none }
def insnBytesRow : OpenClaim := { program := "ytiekhgllnpgjcaa", sum := "899d1d2df7475f872e9d3b484a15939b4dd244531c2c880dd7c23e9fdbe3a63e", func := "postern/posternlaw02.InsnBytes", spec := "insnBytes", inPlace := ["internal/bytealg.IndexByteString"], apart := false }
def InsnBytesSaid : Prop := insnBytesRow.holds Try.pinned (OpenSpec.ofChange insnBytesSpec)

/-- ITS FALSE NEIGHBOUR: 'it returns false'. Refute it at one input. -/
def insnBytesWrong : ChangeSpec := { name := "insnBytes", fn := fun _ => fun
  | [d] => { results := [.lit (.bool false)], args := [d] }
  | _ => none }
def InsnBytesWrongFalsely : Prop := insnBytesRow.holds Try.pinned (OpenSpec.ofChange insnBytesWrong)

/-- 'posternlaw02.InsnLists': WHATEVER THE INPUT: true; the input reads as it did. -/
def insnListsSpec : ChangeSpec := { name := "insnLists", fn := fun _ => fun
  | [d] => { results := [.lit (.bool true)], args := [d] }
  | _ => none }
def insnListsRow : OpenClaim := { program := "ytiekhgllnpgjcaa", sum := "899d1d2df7475f872e9d3b484a15939b4dd244531c2c880dd7c23e9fdbe3a63e", func := "postern/posternlaw02.InsnLists", spec := "insnLists", inPlace := ["internal/bytealg.IndexByteString"], apart := false }
def InsnListsSaid : Prop := insnListsRow.holds Try.pinned (OpenSpec.ofChange insnListsSpec)

/-- ITS FALSE NEIGHBOUR: 'it returns false'. Refute it at one input. -/
def insnListsWrong : ChangeSpec := { name := "insnLists", fn := fun _ => fun
  | [d] => { results := [.lit (.bool false)], args := [d] }
  | _ => none }
def InsnListsWrongFalsely : Prop := insnListsRow.holds Try.pinned (OpenSpec.ofChange insnListsWrong)

/-- 'posternlaw02.InsnPlain': WHATEVER THE INPUT: true; the input reads as it did. -/
def insnPlainSpec : ChangeSpec := { name := "insnPlain", fn := fun _ => fun
  | [d1, d2] => { results := [.lit (.bool true)], args := [d1, d2] }
  | _ => none }
def insnPlainRow : OpenClaim := { program := "ytiekhgllnpgjcaa", sum := "899d1d2df7475f872e9d3b484a15939b4dd244531c2c880dd7c23e9fdbe3a63e", func := "postern/posternlaw02.InsnPlain", spec := "insnPlain", inPlace := ["internal/bytealg.IndexByteString"], apart := false }
def InsnPlainSaid : Prop := insnPlainRow.holds Try.pinned (OpenSpec.ofChange insnPlainSpec)

/-- ITS FALSE NEIGHBOUR: 'it returns false'. Refute it at one input. -/
def insnPlainWrong : ChangeSpec := { name := "insnPlain", fn := fun _ => fun
  | [d1, d2] => { results := [.lit (.bool false)], args := [d1, d2] }
  | _ => none }
def InsnPlainWrongFalsely : Prop := insnPlainRow.holds Try.pinned (OpenSpec.ofChange insnPlainWrong)

/-- 'posternlaw05.AluDo': WHATEVER THE INPUT: true; the input reads as it did. -/
def aluDoSpec : ChangeSpec := { name := "aluDo", fn := fun _ => fun
  | [d1, d2, d3] => { results := [.lit (.bool true)], args := [d1, d2, d3] }
  | _ => none }
def aluDoRow : OpenClaim := { program := "ytiekhgllnpgjcaa", sum := "899d1d2df7475f872e9d3b484a15939b4dd244531c2c880dd7c23e9fdbe3a63e", func := "postern/posternlaw05.AluDo", spec := "aluDo", apart := false }
def AluDoSaid : Prop := aluDoRow.holds Try.pinned (OpenSpec.ofChange aluDoSpec)

/-- ITS FALSE NEIGHBOUR: 'it returns false'. Refute it at one input. -/
def aluDoWrong : ChangeSpec := { name := "aluDo", fn := fun _ => fun
  | [d1, d2, d3] => { results := [.lit (.bool false)], args := [d1, d2, d3] }
  | _ => none }
def AluDoWrongFalsely : Prop := aluDoRow.holds Try.pinned (OpenSpec.ofChange aluDoWrong)

/-- 'posternlaw05.AluHolds': WHATEVER THE INPUT: true; the input reads as it did. -/
def aluHoldsSpec : ChangeSpec := { name := "aluHolds", fn := fun _ => fun
  | [d1, d2, d3] => { results := [.lit (.bool true)], args := [d1, d2, d3] }
  | _ => none }
def aluHoldsRow : OpenClaim := { program := "ytiekhgllnpgjcaa", sum := "899d1d2df7475f872e9d3b484a15939b4dd244531c2c880dd7c23e9fdbe3a63e", func := "postern/posternlaw05.AluHolds", spec := "aluHolds", apart := false }
def AluHoldsSaid : Prop := aluHoldsRow.holds Try.pinned (OpenSpec.ofChange aluHoldsSpec)

/-- ITS FALSE NEIGHBOUR: 'it returns false'. Refute it at one input. -/
def aluHoldsWrong : ChangeSpec := { name := "aluHolds", fn := fun _ => fun
  | [d1, d2, d3] => { results := [.lit (.bool false)], args := [d1, d2, d3] }
  | _ => none }
def AluHoldsWrongFalsely : Prop := aluHoldsRow.holds Try.pinned (OpenSpec.ofChange aluHoldsWrong)

/-- 'posternlaw05.AluLaws': WHATEVER THE INPUT: true; the input reads as it did. -/
def aluLawsSpec : ChangeSpec := { name := "aluLaws", fn := fun _ => fun
  | [d1, d2, d3] => { results := [.lit (.bool true)], args := [d1, d2, d3] }
  | _ => none }
def aluLawsRow : OpenClaim := { program := "ytiekhgllnpgjcaa", sum := "899d1d2df7475f872e9d3b484a15939b4dd244531c2c880dd7c23e9fdbe3a63e", func := "postern/posternlaw05.AluLaws", spec := "aluLaws", apart := false }
def AluLawsSaid : Prop := aluLawsRow.holds Try.pinned (OpenSpec.ofChange aluLawsSpec)

/-- ITS FALSE NEIGHBOUR: 'it returns false'. Refute it at one input. -/
def aluLawsWrong : ChangeSpec := { name := "aluLaws", fn := fun _ => fun
  | [d1, d2, d3] => { results := [.lit (.bool false)], args := [d1, d2, d3] }
  | _ => none }
def AluLawsWrongFalsely : Prop := aluLawsRow.holds Try.pinned (OpenSpec.ofChange aluLawsWrong)

/-- 'posternlaw05.AluHalves': WHATEVER THE INPUT: true; the input reads as it did. -/
def aluHalvesSpec : ChangeSpec := { name := "aluHalves", fn := fun _ => fun
  | [d1, d2, d3] => { results := [.lit (.bool true)], args := [d1, d2, d3] }
  | _ => none }
def aluHalvesRow : OpenClaim := { program := "ytiekhgllnpgjcaa", sum := "899d1d2df7475f872e9d3b484a15939b4dd244531c2c880dd7c23e9fdbe3a63e", func := "postern/posternlaw05.AluHalves", spec := "aluHalves", apart := false }
def AluHalvesSaid : Prop := aluHalvesRow.holds Try.pinned (OpenSpec.ofChange aluHalvesSpec)

/-- ITS FALSE NEIGHBOUR: 'it returns false'. Refute it at one input. -/
def aluHalvesWrong : ChangeSpec := { name := "aluHalves", fn := fun _ => fun
  | [d1, d2, d3] => { results := [.lit (.bool false)], args := [d1, d2, d3] }
  | _ => none }
def AluHalvesWrongFalsely : Prop := aluHalvesRow.holds Try.pinned (OpenSpec.ofChange aluHalvesWrong)

/-- 'posternlaw05.AluOperand': WHATEVER THE INPUT: true; the input reads as it did. -/
def aluOperandSpec : ChangeSpec := { name := "aluOperand", fn := fun _ => fun
  | [d1, d2] => { results := [.lit (.bool true)], args := [d1, d2] }
  | _ => none }
def aluOperandRow : OpenClaim := { program := "ytiekhgllnpgjcaa", sum := "899d1d2df7475f872e9d3b484a15939b4dd244531c2c880dd7c23e9fdbe3a63e", func := "postern/posternlaw05.AluOperand", spec := "aluOperand", apart := false }
def AluOperandSaid : Prop := aluOperandRow.holds Try.pinned (OpenSpec.ofChange aluOperandSpec)

/-- ITS FALSE NEIGHBOUR: 'it returns false'. Refute it at one input. -/
def aluOperandWrong : ChangeSpec := { name := "aluOperand", fn := fun _ => fun
  | [d1, d2] => { results := [.lit (.bool false)], args := [d1, d2] }
  | _ => none }
def AluOperandWrongFalsely : Prop := aluOperandRow.holds Try.pinned (OpenSpec.ofChange aluOperandWrong)

/- THE SECOND FORM. 'bulk': how many values and letters a reading holds, each counted each time it is reached (what is shared counts as often as it is met; a slice's spare places count too). A statement '..UptoSaid' is the law's where the arguments, and the package variables that the reading takes, are together of bulk at most 1048576: NARROWER than '..Said'. Prove '..Said' where nothing that the law and all that it calls make is longer than what came in: it says more and counts as full. Else prove '..UptoSaid'. A law counts once. -/
mutual
def uptoBulk {H : Type} : DataW H → Nat
  | .lit (.string bytes) => bytes.length + 1
  | .lit _ => 1
  | .nil => 1
  | .ptr d => uptoBulk d + 1
  | .slice elems spare => uptoBulkAll elems + uptoBulkAll spare + 1
  | .agg parts => uptoBulkAll parts + 1
  | .iface _ d => uptoBulk d + 1
  | .map entries => uptoBulkEntries entries + 1
  | .held _ => 1
def uptoBulkAll {H : Type} : List (DataW H) → Nat
  | [] => 0
  | d :: r => uptoBulk d + uptoBulkAll r
def uptoBulkEntries {H : Type} : List (Lit × DataW H) → Nat
  | [] => 0
  | x :: r => uptoBulkEntry x + uptoBulkEntries r
def uptoBulkEntry {H : Type} : Lit × DataW H → Nat
  | (.string bytes, d) => bytes.length + uptoBulk d + 1
  | (_, d) => uptoBulk d + 1
 end
def uptoSmall : (H : Type) → List (DataW H) → Bool := fun _ ds => decide (uptoBulkAll ds ≤ 1048576)
def OpenSpec.upto (s : _root_.Go.ChangeSpec) : _root_.Go.OpenSpec := { _root_.Go.OpenSpec.ofChange s with cond := some uptoSmall }

/-- 'posternlaw02.InsnLongs', WHERE WHAT IT READS IS OF BULK AT MOST 1048576: true; the input reads as it did. -/
def insnLongsUptoRow : OpenClaim := { program := "ytiekhgllnpgjcaa", sum := "899d1d2df7475f872e9d3b484a15939b4dd244531c2c880dd7c23e9fdbe3a63e", func := "postern/posternlaw02.InsnLongs", spec := "insnLongs", inPlace := ["internal/bytealg.IndexByteString"], apart := false, narrowed := true }
def InsnLongsUptoSaid : Prop := insnLongsUptoRow.holds Try.pinned (OpenSpec.upto insnLongsSpec)

/-- 'posternlaw02.InsnOps', WHERE WHAT IT READS IS OF BULK AT MOST 1048576: true; the input reads as it did. -/
def insnOpsUptoRow : OpenClaim := { program := "ytiekhgllnpgjcaa", sum := "899d1d2df7475f872e9d3b484a15939b4dd244531c2c880dd7c23e9fdbe3a63e", func := "postern/posternlaw02.InsnOps", spec := "insnOps", inPlace := ["internal/bytealg.IndexByteString"], apart := false, narrowed := true }
def InsnOpsUptoSaid : Prop := insnOpsUptoRow.holds Try.pinned (OpenSpec.upto insnOpsSpec)

/-- 'posternlaw02.InsnBytes', WHERE WHAT IT READS IS OF BULK AT MOST 1048576: true; the input reads as it did. -/
def insnBytesUptoRow : OpenClaim := { program := "ytiekhgllnpgjcaa", sum := "899d1d2df7475f872e9d3b484a15939b4dd244531c2c880dd7c23e9fdbe3a63e", func := "postern/posternlaw02.InsnBytes", spec := "insnBytes", inPlace := ["internal/bytealg.IndexByteString"], apart := false, narrowed := true }
def InsnBytesUptoSaid : Prop := insnBytesUptoRow.holds Try.pinned (OpenSpec.upto insnBytesSpec)

/-- 'posternlaw02.InsnLists', WHERE WHAT IT READS IS OF BULK AT MOST 1048576: true; the input reads as it did. -/
def insnListsUptoRow : OpenClaim := { program := "ytiekhgllnpgjcaa", sum := "899d1d2df7475f872e9d3b484a15939b4dd244531c2c880dd7c23e9fdbe3a63e", func := "postern/posternlaw02.InsnLists", spec := "insnLists", inPlace := ["internal/bytealg.IndexByteString"], apart := false, narrowed := true }
def InsnListsUptoSaid : Prop := insnListsUptoRow.holds Try.pinned (OpenSpec.upto insnListsSpec)

/-- 'posternlaw02.InsnPlain', WHERE WHAT IT READS IS OF BULK AT MOST 1048576: true; the input reads as it did. -/
def insnPlainUptoRow : OpenClaim := { program := "ytiekhgllnpgjcaa", sum := "899d1d2df7475f872e9d3b484a15939b4dd244531c2c880dd7c23e9fdbe3a63e", func := "postern/posternlaw02.InsnPlain", spec := "insnPlain", inPlace := ["internal/bytealg.IndexByteString"], apart := false, narrowed := true }
def InsnPlainUptoSaid : Prop := insnPlainUptoRow.holds Try.pinned (OpenSpec.upto insnPlainSpec)

/-- 'posternlaw05.AluDo', WHERE WHAT IT READS IS OF BULK AT MOST 1048576: true; the input reads as it did. -/
def aluDoUptoRow : OpenClaim := { program := "ytiekhgllnpgjcaa", sum := "899d1d2df7475f872e9d3b484a15939b4dd244531c2c880dd7c23e9fdbe3a63e", func := "postern/posternlaw05.AluDo", spec := "aluDo", apart := false, narrowed := true }
def AluDoUptoSaid : Prop := aluDoUptoRow.holds Try.pinned (OpenSpec.upto aluDoSpec)

/-- 'posternlaw05.AluHolds', WHERE WHAT IT READS IS OF BULK AT MOST 1048576: true; the input reads as it did. -/
def aluHoldsUptoRow : OpenClaim := { program := "ytiekhgllnpgjcaa", sum := "899d1d2df7475f872e9d3b484a15939b4dd244531c2c880dd7c23e9fdbe3a63e", func := "postern/posternlaw05.AluHolds", spec := "aluHolds", apart := false, narrowed := true }
def AluHoldsUptoSaid : Prop := aluHoldsUptoRow.holds Try.pinned (OpenSpec.upto aluHoldsSpec)

/-- 'posternlaw05.AluLaws', WHERE WHAT IT READS IS OF BULK AT MOST 1048576: true; the input reads as it did. -/
def aluLawsUptoRow : OpenClaim := { program := "ytiekhgllnpgjcaa", sum := "899d1d2df7475f872e9d3b484a15939b4dd244531c2c880dd7c23e9fdbe3a63e", func := "postern/posternlaw05.AluLaws", spec := "aluLaws", apart := false, narrowed := true }
def AluLawsUptoSaid : Prop := aluLawsUptoRow.holds Try.pinned (OpenSpec.upto aluLawsSpec)

/-- 'posternlaw05.AluHalves', WHERE WHAT IT READS IS OF BULK AT MOST 1048576: true; the input reads as it did. -/
def aluHalvesUptoRow : OpenClaim := { program := "ytiekhgllnpgjcaa", sum := "899d1d2df7475f872e9d3b484a15939b4dd244531c2c880dd7c23e9fdbe3a63e", func := "postern/posternlaw05.AluHalves", spec := "aluHalves", apart := false, narrowed := true }
def AluHalvesUptoSaid : Prop := aluHalvesUptoRow.holds Try.pinned (OpenSpec.upto aluHalvesSpec)

/-- 'posternlaw05.AluOperand', WHERE WHAT IT READS IS OF BULK AT MOST 1048576: true; the input reads as it did. -/
def aluOperandUptoRow : OpenClaim := { program := "ytiekhgllnpgjcaa", sum := "899d1d2df7475f872e9d3b484a15939b4dd244531c2c880dd7c23e9fdbe3a63e", func := "postern/posternlaw05.AluOperand", spec := "aluOperand", apart := false, narrowed := true }
def AluOperandUptoSaid : Prop := aluOperandUptoRow.holds Try.pinned (OpenSpec.upto aluOperandSpec)

end Rows
end Go.Proofs.Ytiekhgllnpgjcaa
