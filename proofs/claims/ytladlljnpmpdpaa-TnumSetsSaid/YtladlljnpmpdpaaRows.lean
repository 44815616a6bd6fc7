/-
  No cell of these rows narrows 'for every input' (looked for: loops, veiled, ifaces, maps, wideKeys, modest, calm, conditions, laid).
  DERIVED. THE GIVEN ROWS OF THIS SEAT. 10 by the template 'for every input the law returns true; each argument reads behind the call as it read before'; 0 by the template 'total and deterministic' (their statements: YtladlljnpmpdpaaTotals.lean).
  GIVEN WITH THE SEED: the statements are not yours to turn. If you find one false, say at which input.
  Laid BY PROGRAM, IN A SANDBOX (cutbox-rows.mjs): the forced cells as the released guide's own fill.sh prints them over the translation 0bef2baac8e76109… (all of the seat's roots in one cut). By AI agents, Wed Nov 11 2026. No macro, syntax, notation, axiom, sorry.
-/
import Derived.Test.YtladlljnpmpdpaaChecked
import GoSem.Claim
import GoSem.ClaimJoined
import GoSem.ClaimMapViews
import Derived.JoinedTies
import Derived.KernelRfl
namespace Go.Proofs.Ytladlljnpmpdpaa
/- THE CELL 'sum', in the pinned program and in every row, IS THE sha256 OF THE DUMP (.gsa) THAT YtladlljnpmpdpaaProg.lean LOADS. Nothing in Lean hashes anything: it is a label: what it is worth is what the hold of that sum in a sandbox is worth. -/
noncomputable def Try.pinned : Pinned := { name := "ytladlljnpmpdpaa", sum := "0bef2baac8e76109063ecef1135b80cb541e6bb800336a9d45ee7db090d5b5ac", checked := Try.checked }
namespace Rows
def none {H : Type} : Left H := { results := [], args := [] }

/-- 'posternlaw14.TnumSound': WHATEVER THE INPUT: true; the input reads as it did. -/
def tnumSoundSpec : ChangeSpec := { name := "tnumSound", fn := fun _ => fun
  | [d1, d2, d3] => { results := [.lit (.bool true)], args := [d1, d2, d3] }
  | _ => none }
def tnumSoundRow : OpenClaim := { program := "ytladlljnpmpdpaa", sum := "0bef2baac8e76109063ecef1135b80cb541e6bb800336a9d45ee7db090d5b5ac", func := "postern/posternlaw14.TnumSound", spec := "tnumSound", apart := false }
def TnumSoundSaid : Prop := tnumSoundRow.holds Try.pinned (OpenSpec.ofChange tnumSoundSpec)

/-- ITS FALSE NEIGHBOUR: 'it returns false'. Refute it at one input. -/
def tnumSoundWrong : ChangeSpec := { name := "tnumSound", fn := fun _ => fun
  | [d1, d2, d3] => { results := [.lit (.bool false)], args := [d1, d2, d3] }
  | _ => none }
def TnumSoundWrongFalsely : Prop := tnumSoundRow.holds Try.pinned (OpenSpec.ofChange tnumSoundWrong)

/-- 'posternlaw14.TnumBest': WHATEVER THE INPUT: true; the input reads as it did. -/
def tnumBestSpec : ChangeSpec := { name := "tnumBest", fn := fun _ => fun
  | [d1, d2, d3] => { results := [.lit (.bool true)], args := [d1, d2, d3] }
  | _ => none }
def tnumBestRow : OpenClaim := { program := "ytladlljnpmpdpaa", sum := "0bef2baac8e76109063ecef1135b80cb541e6bb800336a9d45ee7db090d5b5ac", func := "postern/posternlaw14.TnumBest", spec := "tnumBest", apart := false }
def TnumBestSaid : Prop := tnumBestRow.holds Try.pinned (OpenSpec.ofChange tnumBestSpec)

/-- ITS FALSE NEIGHBOUR: 'it returns false'. Refute it at one input. -/
def tnumBestWrong : ChangeSpec := { name := "tnumBest", fn := fun _ => fun
  | [d1, d2, d3] => { results := [.lit (.bool false)], args := [d1, d2, d3] }
  | _ => none }
def TnumBestWrongFalsely : Prop := tnumBestRow.holds Try.pinned (OpenSpec.ofChange tnumBestWrong)

/-- 'posternlaw14.TnumRange': WHATEVER THE INPUT: true; the input reads as it did. -/
def tnumRangeSpec : ChangeSpec := { name := "tnumRange", fn := fun _ => fun
  | [d1, d2, d3] => { results := [.lit (.bool true)], args := [d1, d2, d3] }
  | _ => none }
def tnumRangeRow : OpenClaim := { program := "ytladlljnpmpdpaa", sum := "0bef2baac8e76109063ecef1135b80cb541e6bb800336a9d45ee7db090d5b5ac", func := "postern/posternlaw14.TnumRange", spec := "tnumRange", apart := false }
def TnumRangeSaid : Prop := tnumRangeRow.holds Try.pinned (OpenSpec.ofChange tnumRangeSpec)

/-- ITS FALSE NEIGHBOUR: 'it returns false'. Refute it at one input. -/
def tnumRangeWrong : ChangeSpec := { name := "tnumRange", fn := fun _ => fun
  | [d1, d2, d3] => { results := [.lit (.bool false)], args := [d1, d2, d3] }
  | _ => none }
def TnumRangeWrongFalsely : Prop := tnumRangeRow.holds Try.pinned (OpenSpec.ofChange tnumRangeWrong)

/-- 'posternlaw14.TnumChains': WHATEVER THE INPUT: true; the input reads as it did. -/
def tnumChainsSpec : ChangeSpec := { name := "tnumChains", fn := fun _ => fun
  | [d1, d2, d3] => { results := [.lit (.bool true)], args := [d1, d2, d3] }
  | _ => none }
def tnumChainsRow : OpenClaim := { program := "ytladlljnpmpdpaa", sum := "0bef2baac8e76109063ecef1135b80cb541e6bb800336a9d45ee7db090d5b5ac", func := "postern/posternlaw14.TnumChains", spec := "tnumChains", apart := false }
def TnumChainsSaid : Prop := tnumChainsRow.holds Try.pinned (OpenSpec.ofChange tnumChainsSpec)

/-- ITS FALSE NEIGHBOUR: 'it returns false'. Refute it at one input. -/
def tnumChainsWrong : ChangeSpec := { name := "tnumChains", fn := fun _ => fun
  | [d1, d2, d3] => { results := [.lit (.bool false)], args := [d1, d2, d3] }
  | _ => none }
def TnumChainsWrongFalsely : Prop := tnumChainsRow.holds Try.pinned (OpenSpec.ofChange tnumChainsWrong)

/-- 'posternlaw14.TnumSets': WHATEVER THE INPUT: true; the input reads as it did. -/
def tnumSetsSpec : ChangeSpec := { name := "tnumSets", fn := fun _ => fun
  | [d1, d2, d3] => { results := [.lit (.bool true)], args := [d1, d2, d3] }
  | _ => none }
def tnumSetsRow : OpenClaim := { program := "ytladlljnpmpdpaa", sum := "0bef2baac8e76109063ecef1135b80cb541e6bb800336a9d45ee7db090d5b5ac", func := "postern/posternlaw14.TnumSets", spec := "tnumSets", apart := false }
def TnumSetsSaid : Prop := tnumSetsRow.holds Try.pinned (OpenSpec.ofChange tnumSetsSpec)

/-- ITS FALSE NEIGHBOUR: 'it returns false'. Refute it at one input. -/
def tnumSetsWrong : ChangeSpec := { name := "tnumSets", fn := fun _ => fun
  | [d1, d2, d3] => { results := [.lit (.bool false)], args := [d1, d2, d3] }
  | _ => none }
def TnumSetsWrongFalsely : Prop := tnumSetsRow.holds Try.pinned (OpenSpec.ofChange tnumSetsWrong)

/-- 'posternlaw15.SpanBest': WHATEVER THE INPUT: true; the input reads as it did. -/
def spanBestSpec : ChangeSpec := { name := "spanBest", fn := fun _ => fun
  | [d1, d2] => { results := [.lit (.bool true)], args := [d1, d2] }
  | _ => none }
def spanBestRow : OpenClaim := { program := "ytladlljnpmpdpaa", sum := "0bef2baac8e76109063ecef1135b80cb541e6bb800336a9d45ee7db090d5b5ac", func := "postern/posternlaw15.SpanBest", spec := "spanBest", unfollowed := true, recurses := true, apart := false }
def SpanBestSaid : Prop := spanBestRow.holds Try.pinned (OpenSpec.ofChange spanBestSpec)

/-- ITS FALSE NEIGHBOUR: 'it returns false'. Refute it at one input. -/
def spanBestWrong : ChangeSpec := { name := "spanBest", fn := fun _ => fun
  | [d1, d2] => { results := [.lit (.bool false)], args := [d1, d2] }
  | _ => none }
def SpanBestWrongFalsely : Prop := spanBestRow.holds Try.pinned (OpenSpec.ofChange spanBestWrong)

/-- 'posternlaw15.SpanNarrow': WHATEVER THE INPUT: true; the input reads as it did. -/
def spanNarrowSpec : ChangeSpec := { name := "spanNarrow", fn := fun _ => fun
  | [d1, d2, d3] => { results := [.lit (.bool true)], args := [d1, d2, d3] }
  | _ => none }
def spanNarrowRow : OpenClaim := { program := "ytladlljnpmpdpaa", sum := "0bef2baac8e76109063ecef1135b80cb541e6bb800336a9d45ee7db090d5b5ac", func := "postern/posternlaw15.SpanNarrow", spec := "spanNarrow", unfollowed := true, recurses := true, apart := false }
def SpanNarrowSaid : Prop := spanNarrowRow.holds Try.pinned (OpenSpec.ofChange spanNarrowSpec)

/-- ITS FALSE NEIGHBOUR: 'it returns false'. Refute it at one input. -/
def spanNarrowWrong : ChangeSpec := { name := "spanNarrow", fn := fun _ => fun
  | [d1, d2, d3] => { results := [.lit (.bool false)], args := [d1, d2, d3] }
  | _ => none }
def SpanNarrowWrongFalsely : Prop := spanNarrowRow.holds Try.pinned (OpenSpec.ofChange spanNarrowWrong)

/-- 'posternlaw15.SpanEnds': WHATEVER THE INPUT: true; the input reads as it did. -/
def spanEndsSpec : ChangeSpec := { name := "spanEnds", fn := fun _ => fun
  | [d1, d2, d3] => { results := [.lit (.bool true)], args := [d1, d2, d3] }
  | _ => none }
def spanEndsRow : OpenClaim := { program := "ytladlljnpmpdpaa", sum := "0bef2baac8e76109063ecef1135b80cb541e6bb800336a9d45ee7db090d5b5ac", func := "postern/posternlaw15.SpanEnds", spec := "spanEnds", unfollowed := true, recurses := true, apart := false }
def SpanEndsSaid : Prop := spanEndsRow.holds Try.pinned (OpenSpec.ofChange spanEndsSpec)

/-- ITS FALSE NEIGHBOUR: 'it returns false'. Refute it at one input. -/
def spanEndsWrong : ChangeSpec := { name := "spanEnds", fn := fun _ => fun
  | [d1, d2, d3] => { results := [.lit (.bool false)], args := [d1, d2, d3] }
  | _ => none }
def SpanEndsWrongFalsely : Prop := spanEndsRow.holds Try.pinned (OpenSpec.ofChange spanEndsWrong)

/-- 'posternlaw15.SpanSound': WHATEVER THE INPUT: true; the input reads as it did. -/
def spanSoundSpec : ChangeSpec := { name := "spanSound", fn := fun _ => fun
  | [d1, d2, d3] => { results := [.lit (.bool true)], args := [d1, d2, d3] }
  | _ => none }
def spanSoundRow : OpenClaim := { program := "ytladlljnpmpdpaa", sum := "0bef2baac8e76109063ecef1135b80cb541e6bb800336a9d45ee7db090d5b5ac", func := "postern/posternlaw15.SpanSound", spec := "spanSound", unfollowed := true, recurses := true, apart := false }
def SpanSoundSaid : Prop := spanSoundRow.holds Try.pinned (OpenSpec.ofChange spanSoundSpec)

/-- ITS FALSE NEIGHBOUR: 'it returns false'. Refute it at one input. -/
def spanSoundWrong : ChangeSpec := { name := "spanSound", fn := fun _ => fun
  | [d1, d2, d3] => { results := [.lit (.bool false)], args := [d1, d2, d3] }
  | _ => none }
def SpanSoundWrongFalsely : Prop := spanSoundRow.holds Try.pinned (OpenSpec.ofChange spanSoundWrong)

/-- 'posternlaw15.SpanChains': WHATEVER THE INPUT: true; the input reads as it did. -/
def spanChainsSpec : ChangeSpec := { name := "spanChains", fn := fun _ => fun
  | [d1, d2, d3] => { results := [.lit (.bool true)], args := [d1, d2, d3] }
  | _ => none }
def spanChainsRow : OpenClaim := { program := "ytladlljnpmpdpaa", sum := "0bef2baac8e76109063ecef1135b80cb541e6bb800336a9d45ee7db090d5b5ac", func := "postern/posternlaw15.SpanChains", spec := "spanChains", unfollowed := true, recurses := true, apart := false }
def SpanChainsSaid : Prop := spanChainsRow.holds Try.pinned (OpenSpec.ofChange spanChainsSpec)

/-- ITS FALSE NEIGHBOUR: 'it returns false'. Refute it at one input. -/
def spanChainsWrong : ChangeSpec := { name := "spanChains", fn := fun _ => fun
  | [d1, d2, d3] => { results := [.lit (.bool false)], args := [d1, d2, d3] }
  | _ => none }
def SpanChainsWrongFalsely : Prop := spanChainsRow.holds Try.pinned (OpenSpec.ofChange spanChainsWrong)

/- THE SECOND FORM. 'bulk': how many values and letters a reading holds, each counted each time it is reached (what is shared counts as often as it is met; a slice's spare places count too). A statement '..UptoSaid' is the law's where the arguments, and the package variables that the reading takes, are together of bulk at most 1048576: NARROWER than '..Said'. Prove '..Said' where nothing that the law and all that it calls make is longer than what came in: it says more and counts as full. Else prove '..UptoSaid'. A law counts once. -/
mutual
def uptoBulk {H : Type} : DataW H → Nat
  | .lit (.string bytes) => bytes.length + 1
  | .lit _ => 1
  | .nil => 1
  | .ptr d => uptoBulk d + 1
  | .slice elems spare => uptoBulkAll elems + uptoBulkAll spare + 1
  | .agg parts => uptoBulkAll parts + 1
  | .iface _ d => uptoBulk d + 1
  | .map entries => uptoBulkEntries entries + 1
  | .held _ => 1
def uptoBulkAll {H : Type} : List (DataW H) → Nat
  | [] => 0
  | d :: r => uptoBulk d + uptoBulkAll r
def uptoBulkEntries {H : Type} : List (Lit × DataW H) → Nat
  | [] => 0
  | x :: r => uptoBulkEntry x + uptoBulkEntries r
def uptoBulkEntry {H : Type} : Lit × DataW H → Nat
  | (.string bytes, d) => bytes.length + uptoBulk d + 1
  | (_, d) => uptoBulk d + 1
 end
def uptoSmall : (H : Type) → List (DataW H) → Bool := fun _ ds => decide (uptoBulkAll ds ≤ 1048576)
def OpenSpec.upto (s : _root_.Go.ChangeSpec) : _root_.Go.OpenSpec := { _root_.Go.OpenSpec.ofChange s with cond := some uptoSmall }

/-- 'posternlaw14.TnumSound', WHERE WHAT IT READS IS OF BULK AT MOST 1048576: true; the input reads as it did. -/
def tnumSoundUptoRow : OpenClaim := { program := "ytladlljnpmpdpaa", sum := "0bef2baac8e76109063ecef1135b80cb541e6bb800336a9d45ee7db090d5b5ac", func := "postern/posternlaw14.TnumSound", spec := "tnumSound", apart := false, narrowed := true }
def TnumSoundUptoSaid : Prop := tnumSoundUptoRow.holds Try.pinned (OpenSpec.upto tnumSoundSpec)

/-- 'posternlaw14.TnumBest', WHERE WHAT IT READS IS OF BULK AT MOST 1048576: true; the input reads as it did. -/
def tnumBestUptoRow : OpenClaim := { program := "ytladlljnpmpdpaa", sum := "0bef2baac8e76109063ecef1135b80cb541e6bb800336a9d45ee7db090d5b5ac", func := "postern/posternlaw14.TnumBest", spec := "tnumBest", apart := false, narrowed := true }
def TnumBestUptoSaid : Prop := tnumBestUptoRow.holds Try.pinned (OpenSpec.upto tnumBestSpec)

/-- 'posternlaw14.TnumRange', WHERE WHAT IT READS IS OF BULK AT MOST 1048576: true; the input reads as it did. -/
def tnumRangeUptoRow : OpenClaim := { program := "ytladlljnpmpdpaa", sum := "0bef2baac8e76109063ecef1135b80cb541e6bb800336a9d45ee7db090d5b5ac", func := "postern/posternlaw14.TnumRange", spec := "tnumRange", apart := false, narrowed := true }
def TnumRangeUptoSaid : Prop := tnumRangeUptoRow.holds Try.pinned (OpenSpec.upto tnumRangeSpec)

/-- 'posternlaw14.TnumChains', WHERE WHAT IT READS IS OF BULK AT MOST 1048576: true; the input reads as it did. -/
def tnumChainsUptoRow : OpenClaim := { program := "ytladlljnpmpdpaa", sum := "0bef2baac8e76109063ecef1135b80cb541e6bb800336a9d45ee7db090d5b5ac", func := "postern/posternlaw14.TnumChains", spec := "tnumChains", apart := false, narrowed := true }
def TnumChainsUptoSaid : Prop := tnumChainsUptoRow.holds Try.pinned (OpenSpec.upto tnumChainsSpec)

/-- 'posternlaw14.TnumSets', WHERE WHAT IT READS IS OF BULK AT MOST 1048576: true; the input reads as it did. -/
def tnumSetsUptoRow : OpenClaim := { program := "ytladlljnpmpdpaa", sum := "0bef2baac8e76109063ecef1135b80cb541e6bb800336a9d45ee7db090d5b5ac", func := "postern/posternlaw14.TnumSets", spec := "tnumSets", apart := false, narrowed := true }
def TnumSetsUptoSaid : Prop := tnumSetsUptoRow.holds Try.pinned (OpenSpec.upto tnumSetsSpec)

/-- 'posternlaw15.SpanBest', WHERE WHAT IT READS IS OF BULK AT MOST 1048576: true; the input reads as it did. -/
def spanBestUptoRow : OpenClaim := { program := "ytladlljnpmpdpaa", sum := "0bef2baac8e76109063ecef1135b80cb541e6bb800336a9d45ee7db090d5b5ac", func := "postern/posternlaw15.SpanBest", spec := "spanBest", unfollowed := true, recurses := true, apart := false, narrowed := true }
def SpanBestUptoSaid : Prop := spanBestUptoRow.holds Try.pinned (OpenSpec.upto spanBestSpec)

/-- 'posternlaw15.SpanNarrow', WHERE WHAT IT READS IS OF BULK AT MOST 1048576: true; the input reads as it did. -/
def spanNarrowUptoRow : OpenClaim := { program := "ytladlljnpmpdpaa", sum := "0bef2baac8e76109063ecef1135b80cb541e6bb800336a9d45ee7db090d5b5ac", func := "postern/posternlaw15.SpanNarrow", spec := "spanNarrow", unfollowed := true, recurses := true, apart := false, narrowed := true }
def SpanNarrowUptoSaid : Prop := spanNarrowUptoRow.holds Try.pinned (OpenSpec.upto spanNarrowSpec)

/-- 'posternlaw15.SpanEnds', WHERE WHAT IT READS IS OF BULK AT MOST 1048576: true; the input reads as it did. -/
def spanEndsUptoRow : OpenClaim := { program := "ytladlljnpmpdpaa", sum := "0bef2baac8e76109063ecef1135b80cb541e6bb800336a9d45ee7db090d5b5ac", func := "postern/posternlaw15.SpanEnds", spec := "spanEnds", unfollowed := true, recurses := true, apart := false, narrowed := true }
def SpanEndsUptoSaid : Prop := spanEndsUptoRow.holds Try.pinned (OpenSpec.upto spanEndsSpec)

/-- 'posternlaw15.SpanSound', WHERE WHAT IT READS IS OF BULK AT MOST 1048576: true; the input reads as it did. -/
def spanSoundUptoRow : OpenClaim := { program := "ytladlljnpmpdpaa", sum := "0bef2baac8e76109063ecef1135b80cb541e6bb800336a9d45ee7db090d5b5ac", func := "postern/posternlaw15.SpanSound", spec := "spanSound", unfollowed := true, recurses := true, apart := false, narrowed := true }
def SpanSoundUptoSaid : Prop := spanSoundUptoRow.holds Try.pinned (OpenSpec.upto spanSoundSpec)

/-- 'posternlaw15.SpanChains', WHERE WHAT IT READS IS OF BULK AT MOST 1048576: true; the input reads as it did. -/
def spanChainsUptoRow : OpenClaim := { program := "ytladlljnpmpdpaa", sum := "0bef2baac8e76109063ecef1135b80cb541e6bb800336a9d45ee7db090d5b5ac", func := "postern/posternlaw15.SpanChains", spec := "spanChains", unfollowed := true, recurses := true, apart := false, narrowed := true }
def SpanChainsUptoSaid : Prop := spanChainsUptoRow.holds Try.pinned (OpenSpec.upto spanChainsSpec)

end Rows
end Go.Proofs.Ytladlljnpmpdpaa
