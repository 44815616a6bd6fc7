/-
  No cell of these rows narrows 'for every input' (looked for: loops, veiled, ifaces, maps, wideKeys, modest, calm, conditions, laid).
  DERIVED. THE GIVEN ROWS OF THIS SEAT. 6 by the template 'for every input the law returns true; each argument reads behind the call as it read before'; 0 by the template 'total and deterministic' (their statements: YtndgpadeiljlnaaTotals.lean).
  GIVEN WITH THE SEED: the statements are not yours to turn. If you find one false, say at which input.
  Laid BY PROGRAM, IN A SANDBOX (cutbox-rows.mjs): the forced cells as the released guide's own fill.sh prints them over the translation 3930ffc22349eee2… (all of the seat's roots in one cut). By AI agents, Wed Nov 11 2026. No macro, syntax, notation, axiom, sorry.
-/
import Derived.Test.YtndgpadeiljlnaaChecked
import GoSem.Claim
import GoSem.ClaimJoined
import GoSem.ClaimMapViews
import Derived.JoinedTies
import Derived.KernelRfl
namespace Go.Proofs.Ytndgpadeiljlnaa
/- THE CELL 'sum', in the pinned program and in every row, IS THE sha256 OF THE DUMP (.gsa) THAT YtndgpadeiljlnaaProg.lean LOADS. Nothing in Lean hashes anything: it is a label: what it is worth is what the hold of that sum in a sandbox is worth. -/
noncomputable def Try.pinned : Pinned := { name := "ytndgpadeiljlnaa", sum := "3930ffc22349eee205dc36c80b764caf49e1ab764966c93b720b3ad4ab554281", checked := Try.checked }
namespace Rows
def none {H : Type} : Left H := { results := [], args := [] }

/-- 'posternlaw06.ArrayPlays': WHATEVER THE INPUT: true; the input reads as it did. -/
def arrayPlaysSpec : ChangeSpec := { name := "arrayPlays", fn := fun _ => fun
  | [d1, d2] => { results := [.lit (.bool true)], args := [d1, d2] }
  | _ => none }
def arrayPlaysRow : OpenClaim := { program := "ytndgpadeiljlnaa", sum := "3930ffc22349eee205dc36c80b764caf49e1ab764966c93b720b3ad4ab554281", func := "postern/posternlaw06.ArrayPlays", spec := "arrayPlays", apart := false }
def ArrayPlaysSaid : Prop := arrayPlaysRow.holds Try.pinned (OpenSpec.ofChange arrayPlaysSpec)

/-- ITS FALSE NEIGHBOUR: 'it returns false'. Refute it at one input. -/
def arrayPlaysWrong : ChangeSpec := { name := "arrayPlays", fn := fun _ => fun
  | [d1, d2] => { results := [.lit (.bool false)], args := [d1, d2] }
  | _ => none }
def ArrayPlaysWrongFalsely : Prop := arrayPlaysRow.holds Try.pinned (OpenSpec.ofChange arrayPlaysWrong)

/-- 'posternlaw06.ArrayAll': WHATEVER THE INPUT: true; the input reads as it did. -/
def arrayAllSpec : ChangeSpec := { name := "arrayAll", fn := fun _ => fun
  | [d1, d2, d3] => { results := [.lit (.bool true)], args := [d1, d2, d3] }
  | _ => none }
def arrayAllRow : OpenClaim := { program := "ytndgpadeiljlnaa", sum := "3930ffc22349eee205dc36c80b764caf49e1ab764966c93b720b3ad4ab554281", func := "postern/posternlaw06.ArrayAll", spec := "arrayAll", apart := false }
def ArrayAllSaid : Prop := arrayAllRow.holds Try.pinned (OpenSpec.ofChange arrayAllSpec)

/-- ITS FALSE NEIGHBOUR: 'it returns false'. Refute it at one input. -/
def arrayAllWrong : ChangeSpec := { name := "arrayAll", fn := fun _ => fun
  | [d1, d2, d3] => { results := [.lit (.bool false)], args := [d1, d2, d3] }
  | _ => none }
def ArrayAllWrongFalsely : Prop := arrayAllRow.holds Try.pinned (OpenSpec.ofChange arrayAllWrong)

/-- 'posternlaw06.ArrayCopies': WHATEVER THE INPUT: true; the input reads as it did. -/
def arrayCopiesSpec : ChangeSpec := { name := "arrayCopies", fn := fun _ => fun
  | [d1, d2, d3] => { results := [.lit (.bool true)], args := [d1, d2, d3] }
  | _ => none }
def arrayCopiesRow : OpenClaim := { program := "ytndgpadeiljlnaa", sum := "3930ffc22349eee205dc36c80b764caf49e1ab764966c93b720b3ad4ab554281", func := "postern/posternlaw06.ArrayCopies", spec := "arrayCopies", apart := false }
def ArrayCopiesSaid : Prop := arrayCopiesRow.holds Try.pinned (OpenSpec.ofChange arrayCopiesSpec)

/-- ITS FALSE NEIGHBOUR: 'it returns false'. Refute it at one input. -/
def arrayCopiesWrong : ChangeSpec := { name := "arrayCopies", fn := fun _ => fun
  | [d1, d2, d3] => { results := [.lit (.bool false)], args := [d1, d2, d3] }
  | _ => none }
def ArrayCopiesWrongFalsely : Prop := arrayCopiesRow.holds Try.pinned (OpenSpec.ofChange arrayCopiesWrong)

/-- 'posternlaw07.HashPlays': WHATEVER THE INPUT: true; the input reads as it did. -/
def hashPlaysSpec : ChangeSpec := { name := "hashPlays", fn := fun _ => fun
  | [d1, d2] => { results := [.lit (.bool true)], args := [d1, d2] }
  | _ => none }
def hashPlaysRow : OpenClaim := { program := "ytndgpadeiljlnaa", sum := "3930ffc22349eee205dc36c80b764caf49e1ab764966c93b720b3ad4ab554281", func := "postern/posternlaw07.HashPlays", spec := "hashPlays", apart := false }
def HashPlaysSaid : Prop := hashPlaysRow.holds Try.pinned (OpenSpec.ofChange hashPlaysSpec)

/-- ITS FALSE NEIGHBOUR: 'it returns false'. Refute it at one input. -/
def hashPlaysWrong : ChangeSpec := { name := "hashPlays", fn := fun _ => fun
  | [d1, d2] => { results := [.lit (.bool false)], args := [d1, d2] }
  | _ => none }
def HashPlaysWrongFalsely : Prop := hashPlaysRow.holds Try.pinned (OpenSpec.ofChange hashPlaysWrong)

/-- 'posternlaw07.HashSlots': WHATEVER THE INPUT: true; the input reads as it did. -/
def hashSlotsSpec : ChangeSpec := { name := "hashSlots", fn := fun _ => fun
  | [d1, d2] => { results := [.lit (.bool true)], args := [d1, d2] }
  | _ => none }
def hashSlotsRow : OpenClaim := { program := "ytndgpadeiljlnaa", sum := "3930ffc22349eee205dc36c80b764caf49e1ab764966c93b720b3ad4ab554281", func := "postern/posternlaw07.HashSlots", spec := "hashSlots", apart := false }
def HashSlotsSaid : Prop := hashSlotsRow.holds Try.pinned (OpenSpec.ofChange hashSlotsSpec)

/-- ITS FALSE NEIGHBOUR: 'it returns false'. Refute it at one input. -/
def hashSlotsWrong : ChangeSpec := { name := "hashSlots", fn := fun _ => fun
  | [d1, d2] => { results := [.lit (.bool false)], args := [d1, d2] }
  | _ => none }
def HashSlotsWrongFalsely : Prop := hashSlotsRow.holds Try.pinned (OpenSpec.ofChange hashSlotsWrong)

/-- 'posternlaw07.HashCopies': WHATEVER THE INPUT: true; the input reads as it did. -/
def hashCopiesSpec : ChangeSpec := { name := "hashCopies", fn := fun _ => fun
  | [d1, d2, d3] => { results := [.lit (.bool true)], args := [d1, d2, d3] }
  | _ => none }
def hashCopiesRow : OpenClaim := { program := "ytndgpadeiljlnaa", sum := "3930ffc22349eee205dc36c80b764caf49e1ab764966c93b720b3ad4ab554281", func := "postern/posternlaw07.HashCopies", spec := "hashCopies", inPlace := ["maps.clone"], apart := false }
def HashCopiesSaid : Prop := hashCopiesRow.holds Try.pinned (OpenSpec.ofChange hashCopiesSpec)

/-- ITS FALSE NEIGHBOUR: 'it returns false'. Refute it at one input. -/
def hashCopiesWrong : ChangeSpec := { name := "hashCopies", fn := fun _ => fun
  | [d1, d2, d3] => { results := [.lit (.bool false)], args := [d1, d2, d3] }
  | _ => none }
def HashCopiesWrongFalsely : Prop := hashCopiesRow.holds Try.pinned (OpenSpec.ofChange hashCopiesWrong)

/- THE SECOND FORM. 'bulk': how many values and letters a reading holds, each counted each time it is reached (what is shared counts as often as it is met; a slice's spare places count too). A statement '..UptoSaid' is the law's where the arguments, and the package variables that the reading takes, are together of bulk at most 1048576: NARROWER than '..Said'. Prove '..Said' where nothing that the law and all that it calls make is longer than what came in: it says more and counts as full. Else prove '..UptoSaid'. A law counts once. -/
mutual
def uptoBulk {H : Type} : DataW H → Nat
  | .lit (.string bytes) => bytes.length + 1
  | .lit _ => 1
  | .nil => 1
  | .ptr d => uptoBulk d + 1
  | .slice elems spare => uptoBulkAll elems + uptoBulkAll spare + 1
  | .agg parts => uptoBulkAll parts + 1
  | .iface _ d => uptoBulk d + 1
  | .map entries => uptoBulkEntries entries + 1
  | .held _ => 1
def uptoBulkAll {H : Type} : List (DataW H) → Nat
  | [] => 0
  | d :: r => uptoBulk d + uptoBulkAll r
def uptoBulkEntries {H : Type} : List (Lit × DataW H) → Nat
  | [] => 0
  | x :: r => uptoBulkEntry x + uptoBulkEntries r
def uptoBulkEntry {H : Type} : Lit × DataW H → Nat
  | (.string bytes, d) => bytes.length + uptoBulk d + 1
  | (_, d) => uptoBulk d + 1
 end
def uptoSmall : (H : Type) → List (DataW H) → Bool := fun _ ds => decide (uptoBulkAll ds ≤ 1048576)
def OpenSpec.upto (s : _root_.Go.ChangeSpec) : _root_.Go.OpenSpec := { _root_.Go.OpenSpec.ofChange s with cond := some uptoSmall }

/-- 'posternlaw06.ArrayPlays', WHERE WHAT IT READS IS OF BULK AT MOST 1048576: true; the input reads as it did. -/
def arrayPlaysUptoRow : OpenClaim := { program := "ytndgpadeiljlnaa", sum := "3930ffc22349eee205dc36c80b764caf49e1ab764966c93b720b3ad4ab554281", func := "postern/posternlaw06.ArrayPlays", spec := "arrayPlays", apart := false, narrowed := true }
def ArrayPlaysUptoSaid : Prop := arrayPlaysUptoRow.holds Try.pinned (OpenSpec.upto arrayPlaysSpec)

/-- 'posternlaw06.ArrayAll', WHERE WHAT IT READS IS OF BULK AT MOST 1048576: true; the input reads as it did. -/
def arrayAllUptoRow : OpenClaim := { program := "ytndgpadeiljlnaa", sum := "3930ffc22349eee205dc36c80b764caf49e1ab764966c93b720b3ad4ab554281", func := "postern/posternlaw06.ArrayAll", spec := "arrayAll", apart := false, narrowed := true }
def ArrayAllUptoSaid : Prop := arrayAllUptoRow.holds Try.pinned (OpenSpec.upto arrayAllSpec)

/-- 'posternlaw06.ArrayCopies', WHERE WHAT IT READS IS OF BULK AT MOST 1048576: true; the input reads as it did. -/
def arrayCopiesUptoRow : OpenClaim := { program := "ytndgpadeiljlnaa", sum := "3930ffc22349eee205dc36c80b764caf49e1ab764966c93b720b3ad4ab554281", func := "postern/posternlaw06.ArrayCopies", spec := "arrayCopies", apart := false, narrowed := true }
def ArrayCopiesUptoSaid : Prop := arrayCopiesUptoRow.holds Try.pinned (OpenSpec.upto arrayCopiesSpec)

/-- 'posternlaw07.HashPlays', WHERE WHAT IT READS IS OF BULK AT MOST 1048576: true; the input reads as it did. -/
def hashPlaysUptoRow : OpenClaim := { program := "ytndgpadeiljlnaa", sum := "3930ffc22349eee205dc36c80b764caf49e1ab764966c93b720b3ad4ab554281", func := "postern/posternlaw07.HashPlays", spec := "hashPlays", apart := false, narrowed := true }
def HashPlaysUptoSaid : Prop := hashPlaysUptoRow.holds Try.pinned (OpenSpec.upto hashPlaysSpec)

/-- 'posternlaw07.HashSlots', WHERE WHAT IT READS IS OF BULK AT MOST 1048576: true; the input reads as it did. -/
def hashSlotsUptoRow : OpenClaim := { program := "ytndgpadeiljlnaa", sum := "3930ffc22349eee205dc36c80b764caf49e1ab764966c93b720b3ad4ab554281", func := "postern/posternlaw07.HashSlots", spec := "hashSlots", apart := false, narrowed := true }
def HashSlotsUptoSaid : Prop := hashSlotsUptoRow.holds Try.pinned (OpenSpec.upto hashSlotsSpec)

/-- 'posternlaw07.HashCopies', WHERE WHAT IT READS IS OF BULK AT MOST 1048576: true; the input reads as it did. -/
def hashCopiesUptoRow : OpenClaim := { program := "ytndgpadeiljlnaa", sum := "3930ffc22349eee205dc36c80b764caf49e1ab764966c93b720b3ad4ab554281", func := "postern/posternlaw07.HashCopies", spec := "hashCopies", inPlace := ["maps.clone"], apart := false, narrowed := true }
def HashCopiesUptoSaid : Prop := hashCopiesUptoRow.holds Try.pinned (OpenSpec.upto hashCopiesSpec)

end Rows
end Go.Proofs.Ytndgpadeiljlnaa
