/-
  No cell of these rows narrows 'for every input' (looked for: loops, veiled, ifaces, maps, wideKeys, modest, calm, conditions, laid).
  DERIVED. THE GIVEN ROWS OF THIS SEAT. 9 by the template 'for every input the law returns true; each argument reads behind the call as it read before'; 0 by the template 'total and deterministic' (their statements: YtpjgaacdohiomaaTotals.lean).
  GIVEN WITH THE SEED: the statements are not yours to turn. If you find one false, say at which input.
  Laid BY PROGRAM, IN A SANDBOX (cutbox-rows.mjs): the forced cells as the released guide's own fill.sh prints them over the translation e3f3d8b7ed9835fa… (all of the seat's roots in one cut). By AI agents, Wed Nov 11 2026. No macro, syntax, notation, axiom, sorry.
-/
import Derived.Test.YtpjgaacdohiomaaChecked
import GoSem.Claim
import GoSem.ClaimJoined
import GoSem.ClaimMapViews
import Derived.JoinedTies
import Derived.KernelRfl
namespace Go.Proofs.Ytpjgaacdohiomaa
/- THE CELL 'sum', in the pinned program and in every row, IS THE sha256 OF THE DUMP (.gsa) THAT YtpjgaacdohiomaaProg.lean LOADS. Nothing in Lean hashes anything: it is a label: what it is worth is what the hold of that sum in a sandbox is worth. -/
noncomputable def Try.pinned : Pinned := { name := "ytpjgaacdohiomaa", sum := "e3f3d8b7ed9835fa5a282c721b131c04a8a8c4273c71d5c2032bc55771ce85fb", checked := Try.checked }
namespace Rows
def none {H : Type} : Left H := { results := [], args := [] }

/-- 'posternlaw01.MemBytes': WHATEVER THE INPUT: true; the input reads as it did. -/
def memBytesSpec : ChangeSpec := { name := "memBytes", fn := fun _ => fun
  | [d1, d2, d3] => { results := [.lit (.bool true)], args := [d1, d2, d3] }
  | _ => none }
def memBytesRow : OpenClaim := { program := "ytpjgaacdohiomaa", sum := "e3f3d8b7ed9835fa5a282c721b131c04a8a8c4273c71d5c2032bc55771ce85fb", func := "postern/posternlaw01.MemBytes", spec := "memBytes", apart := false }
def MemBytesSaid : Prop := memBytesRow.holds Try.pinned (OpenSpec.ofChange memBytesSpec)

/-- ITS FALSE NEIGHBOUR: 'it returns false'. Refute it at one input. -/
def memBytesWrong : ChangeSpec := { name := "memBytes", fn := fun _ => fun
  | [d1, d2, d3] => { results := [.lit (.bool false)], args := [d1, d2, d3] }
  | _ => none }
def MemBytesWrongFalsely : Prop := memBytesRow.holds Try.pinned (OpenSpec.ofChange memBytesWrong)

/-- 'posternlaw01.MemFresh': WHATEVER THE INPUT: true; the input reads as it did. -/
def memFreshSpec : ChangeSpec := { name := "memFresh", fn := fun _ => fun
  | [d1, d2, d3] => { results := [.lit (.bool true)], args := [d1, d2, d3] }
  | _ => none }
def memFreshRow : OpenClaim := { program := "ytpjgaacdohiomaa", sum := "e3f3d8b7ed9835fa5a282c721b131c04a8a8c4273c71d5c2032bc55771ce85fb", func := "postern/posternlaw01.MemFresh", spec := "memFresh", apart := false }
def MemFreshSaid : Prop := memFreshRow.holds Try.pinned (OpenSpec.ofChange memFreshSpec)

/-- ITS FALSE NEIGHBOUR: 'it returns false'. Refute it at one input. -/
def memFreshWrong : ChangeSpec := { name := "memFresh", fn := fun _ => fun
  | [d1, d2, d3] => { results := [.lit (.bool false)], args := [d1, d2, d3] }
  | _ => none }
def MemFreshWrongFalsely : Prop := memFreshRow.holds Try.pinned (OpenSpec.ofChange memFreshWrong)

/-- 'posternlaw01.MemApart': WHATEVER THE INPUT: true; the input reads as it did. -/
def memApartSpec : ChangeSpec := { name := "memApart", fn := fun _ => fun
  | [d1, d2, d3] => { results := [.lit (.bool true)], args := [d1, d2, d3] }
  | _ => none }
def memApartRow : OpenClaim := { program := "ytpjgaacdohiomaa", sum := "e3f3d8b7ed9835fa5a282c721b131c04a8a8c4273c71d5c2032bc55771ce85fb", func := "postern/posternlaw01.MemApart", spec := "memApart", apart := false }
def MemApartSaid : Prop := memApartRow.holds Try.pinned (OpenSpec.ofChange memApartSpec)

/-- ITS FALSE NEIGHBOUR: 'it returns false'. Refute it at one input. -/
def memApartWrong : ChangeSpec := { name := "memApart", fn := fun _ => fun
  | [d1, d2, d3] => { results := [.lit (.bool false)], args := [d1, d2, d3] }
  | _ => none }
def MemApartWrongFalsely : Prop := memApartRow.holds Try.pinned (OpenSpec.ofChange memApartWrong)

/-- 'posternlaw01.MemPlays': WHATEVER THE INPUT: true; the input reads as it did. -/
def memPlaysSpec : ChangeSpec := { name := "memPlays", fn := fun _ => fun
  | [d] => { results := [.lit (.bool true)], args := [d] }
  | _ => none }
def memPlaysRow : OpenClaim := { program := "ytpjgaacdohiomaa", sum := "e3f3d8b7ed9835fa5a282c721b131c04a8a8c4273c71d5c2032bc55771ce85fb", func := "postern/posternlaw01.MemPlays", spec := "memPlays", apart := false }
def MemPlaysSaid : Prop := memPlaysRow.holds Try.pinned (OpenSpec.ofChange memPlaysSpec)

/-- ITS FALSE NEIGHBOUR: 'it returns false'. Refute it at one input. -/
def memPlaysWrong : ChangeSpec := { name := "memPlays", fn := fun _ => fun
  | [d] => { results := [.lit (.bool false)], args := [d] }
  | _ => none }
def MemPlaysWrongFalsely : Prop := memPlaysRow.holds Try.pinned (OpenSpec.ofChange memPlaysWrong)

/-- 'posternlaw01.MemCopies': WHATEVER THE INPUT: true; the input reads as it did. -/
def memCopiesSpec : ChangeSpec := { name := "memCopies", fn := fun _ => fun
  | [d1, d2] => { results := [.lit (.bool true)], args := [d1, d2] }
  | _ => none }
def memCopiesRow : OpenClaim := { program := "ytpjgaacdohiomaa", sum := "e3f3d8b7ed9835fa5a282c721b131c04a8a8c4273c71d5c2032bc55771ce85fb", func := "postern/posternlaw01.MemCopies", spec := "memCopies", apart := false }
def MemCopiesSaid : Prop := memCopiesRow.holds Try.pinned (OpenSpec.ofChange memCopiesSpec)

/-- ITS FALSE NEIGHBOUR: 'it returns false'. Refute it at one input. -/
def memCopiesWrong : ChangeSpec := { name := "memCopies", fn := fun _ => fun
  | [d1, d2] => { results := [.lit (.bool false)], args := [d1, d2] }
  | _ => none }
def MemCopiesWrongFalsely : Prop := memCopiesRow.holds Try.pinned (OpenSpec.ofChange memCopiesWrong)

/-- 'posternlaw01.MemNil': WHATEVER THE INPUT: true; the input reads as it did. -/
def memNilSpec : ChangeSpec := { name := "memNil", fn := fun _ => fun
  | [d] => { results := [.lit (.bool true)], args := [d] }
  | _ => none }
def memNilRow : OpenClaim := { program := "ytpjgaacdohiomaa", sum := "e3f3d8b7ed9835fa5a282c721b131c04a8a8c4273c71d5c2032bc55771ce85fb", func := "postern/posternlaw01.MemNil", spec := "memNil", apart := false }
def MemNilSaid : Prop := memNilRow.holds Try.pinned (OpenSpec.ofChange memNilSpec)

/-- ITS FALSE NEIGHBOUR: 'it returns false'. Refute it at one input. -/
def memNilWrong : ChangeSpec := { name := "memNil", fn := fun _ => fun
  | [d] => { results := [.lit (.bool false)], args := [d] }
  | _ => none }
def MemNilWrongFalsely : Prop := memNilRow.holds Try.pinned (OpenSpec.ofChange memNilWrong)

/-- 'posternlaw11.RingRoom': WHATEVER THE INPUT: true; the input reads as it did. -/
def ringRoomSpec : ChangeSpec := { name := "ringRoom", fn := fun _ => fun
  | [d1, d2] => { results := [.lit (.bool true)], args := [d1, d2] }
  | _ => none }
def ringRoomRow : OpenClaim := { program := "ytpjgaacdohiomaa", sum := "e3f3d8b7ed9835fa5a282c721b131c04a8a8c4273c71d5c2032bc55771ce85fb", func := "postern/posternlaw11.RingRoom", spec := "ringRoom", apart := false }
def RingRoomSaid : Prop := ringRoomRow.holds Try.pinned (OpenSpec.ofChange ringRoomSpec)

/-- ITS FALSE NEIGHBOUR: 'it returns false'. Refute it at one input. -/
def ringRoomWrong : ChangeSpec := { name := "ringRoom", fn := fun _ => fun
  | [d1, d2] => { results := [.lit (.bool false)], args := [d1, d2] }
  | _ => none }
def RingRoomWrongFalsely : Prop := ringRoomRow.holds Try.pinned (OpenSpec.ofChange ringRoomWrong)

/-- 'posternlaw11.RingPlays': WHATEVER THE INPUT: true; the input reads as it did. -/
def ringPlaysSpec : ChangeSpec := { name := "ringPlays", fn := fun _ => fun
  | [d1, d2] => { results := [.lit (.bool true)], args := [d1, d2] }
  | _ => none }
def ringPlaysRow : OpenClaim := { program := "ytpjgaacdohiomaa", sum := "e3f3d8b7ed9835fa5a282c721b131c04a8a8c4273c71d5c2032bc55771ce85fb", func := "postern/posternlaw11.RingPlays", spec := "ringPlays", apart := false }
def RingPlaysSaid : Prop := ringPlaysRow.holds Try.pinned (OpenSpec.ofChange ringPlaysSpec)

/-- ITS FALSE NEIGHBOUR: 'it returns false'. Refute it at one input. -/
def ringPlaysWrong : ChangeSpec := { name := "ringPlays", fn := fun _ => fun
  | [d1, d2] => { results := [.lit (.bool false)], args := [d1, d2] }
  | _ => none }
def RingPlaysWrongFalsely : Prop := ringPlaysRow.holds Try.pinned (OpenSpec.ofChange ringPlaysWrong)

/-- 'posternlaw11.RingEnds': WHATEVER THE INPUT: true; the input reads as it did. -/
def ringEndsSpec : ChangeSpec := { name := "ringEnds", fn := fun _ => fun
  | [d1, d2] => { results := [.lit (.bool true)], args := [d1, d2] }
  | _ => none }
def ringEndsRow : OpenClaim := { program := "ytpjgaacdohiomaa", sum := "e3f3d8b7ed9835fa5a282c721b131c04a8a8c4273c71d5c2032bc55771ce85fb", func := "postern/posternlaw11.RingEnds", spec := "ringEnds", apart := false }
def RingEndsSaid : Prop := ringEndsRow.holds Try.pinned (OpenSpec.ofChange ringEndsSpec)

/-- ITS FALSE NEIGHBOUR: 'it returns false'. Refute it at one input. -/
def ringEndsWrong : ChangeSpec := { name := "ringEnds", fn := fun _ => fun
  | [d1, d2] => { results := [.lit (.bool false)], args := [d1, d2] }
  | _ => none }
def RingEndsWrongFalsely : Prop := ringEndsRow.holds Try.pinned (OpenSpec.ofChange ringEndsWrong)

/- THE SECOND FORM. 'bulk': how many values and letters a reading holds, each counted each time it is reached (what is shared counts as often as it is met; a slice's spare places count too). A statement '..UptoSaid' is the law's where the arguments, and the package variables that the reading takes, are together of bulk at most 1048576: NARROWER than '..Said'. Prove '..Said' where nothing that the law and all that it calls make is longer than what came in: it says more and counts as full. Else prove '..UptoSaid'. A law counts once. -/
mutual
def uptoBulk {H : Type} : DataW H → Nat
  | .lit (.string bytes) => bytes.length + 1
  | .lit _ => 1
  | .nil => 1
  | .ptr d => uptoBulk d + 1
  | .slice elems spare => uptoBulkAll elems + uptoBulkAll spare + 1
  | .agg parts => uptoBulkAll parts + 1
  | .iface _ d => uptoBulk d + 1
  | .map entries => uptoBulkEntries entries + 1
  | .held _ => 1
def uptoBulkAll {H : Type} : List (DataW H) → Nat
  | [] => 0
  | d :: r => uptoBulk d + uptoBulkAll r
def uptoBulkEntries {H : Type} : List (Lit × DataW H) → Nat
  | [] => 0
  | x :: r => uptoBulkEntry x + uptoBulkEntries r
def uptoBulkEntry {H : Type} : Lit × DataW H → Nat
  | (.string bytes, d) => bytes.length + uptoBulk d + 1
  | (_, d) => uptoBulk d + 1
 end
def uptoSmall : (H : Type) → List (DataW H) → Bool := fun _ ds => decide (uptoBulkAll ds ≤ 1048576)
def OpenSpec.upto (s : _root_.Go.ChangeSpec) : _root_.Go.OpenSpec := { _root_.Go.OpenSpec.ofChange s with cond := some uptoSmall }

/-- 'posternlaw01.MemBytes', WHERE WHAT IT READS IS OF BULK AT MOST 1048576: true; the input reads as it did. -/
def memBytesUptoRow : OpenClaim := { program := "ytpjgaacdohiomaa", sum := "e3f3d8b7ed9835fa5a282c721b131c04a8a8c4273c71d5c2032bc55771ce85fb", func := "postern/posternlaw01.MemBytes", spec := "memBytes", apart := false, narrowed := true }
def MemBytesUptoSaid : Prop := memBytesUptoRow.holds Try.pinned (OpenSpec.upto memBytesSpec)

/-- 'posternlaw01.MemFresh', WHERE WHAT IT READS IS OF BULK AT MOST 1048576: true; the input reads as it did. -/
def memFreshUptoRow : OpenClaim := { program := "ytpjgaacdohiomaa", sum := "e3f3d8b7ed9835fa5a282c721b131c04a8a8c4273c71d5c2032bc55771ce85fb", func := "postern/posternlaw01.MemFresh", spec := "memFresh", apart := false, narrowed := true }
def MemFreshUptoSaid : Prop := memFreshUptoRow.holds Try.pinned (OpenSpec.upto memFreshSpec)

/-- 'posternlaw01.MemApart', WHERE WHAT IT READS IS OF BULK AT MOST 1048576: true; the input reads as it did. -/
def memApartUptoRow : OpenClaim := { program := "ytpjgaacdohiomaa", sum := "e3f3d8b7ed9835fa5a282c721b131c04a8a8c4273c71d5c2032bc55771ce85fb", func := "postern/posternlaw01.MemApart", spec := "memApart", apart := false, narrowed := true }
def MemApartUptoSaid : Prop := memApartUptoRow.holds Try.pinned (OpenSpec.upto memApartSpec)

/-- 'posternlaw01.MemPlays', WHERE WHAT IT READS IS OF BULK AT MOST 1048576: true; the input reads as it did. -/
def memPlaysUptoRow : OpenClaim := { program := "ytpjgaacdohiomaa", sum := "e3f3d8b7ed9835fa5a282c721b131c04a8a8c4273c71d5c2032bc55771ce85fb", func := "postern/posternlaw01.MemPlays", spec := "memPlays", apart := false, narrowed := true }
def MemPlaysUptoSaid : Prop := memPlaysUptoRow.holds Try.pinned (OpenSpec.upto memPlaysSpec)

/-- 'posternlaw01.MemCopies', WHERE WHAT IT READS IS OF BULK AT MOST 1048576: true; the input reads as it did. -/
def memCopiesUptoRow : OpenClaim := { program := "ytpjgaacdohiomaa", sum := "e3f3d8b7ed9835fa5a282c721b131c04a8a8c4273c71d5c2032bc55771ce85fb", func := "postern/posternlaw01.MemCopies", spec := "memCopies", apart := false, narrowed := true }
def MemCopiesUptoSaid : Prop := memCopiesUptoRow.holds Try.pinned (OpenSpec.upto memCopiesSpec)

/-- 'posternlaw01.MemNil', WHERE WHAT IT READS IS OF BULK AT MOST 1048576: true; the input reads as it did. -/
def memNilUptoRow : OpenClaim := { program := "ytpjgaacdohiomaa", sum := "e3f3d8b7ed9835fa5a282c721b131c04a8a8c4273c71d5c2032bc55771ce85fb", func := "postern/posternlaw01.MemNil", spec := "memNil", apart := false, narrowed := true }
def MemNilUptoSaid : Prop := memNilUptoRow.holds Try.pinned (OpenSpec.upto memNilSpec)

/-- 'posternlaw11.RingRoom', WHERE WHAT IT READS IS OF BULK AT MOST 1048576: true; the input reads as it did. -/
def ringRoomUptoRow : OpenClaim := { program := "ytpjgaacdohiomaa", sum := "e3f3d8b7ed9835fa5a282c721b131c04a8a8c4273c71d5c2032bc55771ce85fb", func := "postern/posternlaw11.RingRoom", spec := "ringRoom", apart := false, narrowed := true }
def RingRoomUptoSaid : Prop := ringRoomUptoRow.holds Try.pinned (OpenSpec.upto ringRoomSpec)

/-- 'posternlaw11.RingPlays', WHERE WHAT IT READS IS OF BULK AT MOST 1048576: true; the input reads as it did. -/
def ringPlaysUptoRow : OpenClaim := { program := "ytpjgaacdohiomaa", sum := "e3f3d8b7ed9835fa5a282c721b131c04a8a8c4273c71d5c2032bc55771ce85fb", func := "postern/posternlaw11.RingPlays", spec := "ringPlays", apart := false, narrowed := true }
def RingPlaysUptoSaid : Prop := ringPlaysUptoRow.holds Try.pinned (OpenSpec.upto ringPlaysSpec)

/-- 'posternlaw11.RingEnds', WHERE WHAT IT READS IS OF BULK AT MOST 1048576: true; the input reads as it did. -/
def ringEndsUptoRow : OpenClaim := { program := "ytpjgaacdohiomaa", sum := "e3f3d8b7ed9835fa5a282c721b131c04a8a8c4273c71d5c2032bc55771ce85fb", func := "postern/posternlaw11.RingEnds", spec := "ringEnds", apart := false, narrowed := true }
def RingEndsUptoSaid : Prop := ringEndsUptoRow.holds Try.pinned (OpenSpec.upto ringEndsSpec)

end Rows
end Go.Proofs.Ytpjgaacdohiomaa
