/-
  No cell of these rows narrows 'for every input' (looked for: loops, veiled, ifaces, maps, wideKeys, modest, calm, conditions, laid).
  DERIVED. THE GIVEN ROWS OF THIS SEAT. 13 by the template 'for every input the law returns true; each argument reads behind the call as it read before'; 0 by the template 'total and deterministic' (their statements: YtfbajampfiodeaaTotals.lean).
  GIVEN WITH THE SEED: the statements are not yours to turn. If you find one false, say at which input.
  Laid BY PROGRAM, IN A SANDBOX (cutbox-rows.mjs): the forced cells as the released guide's own fill.sh prints them over the translation 77cb7f50fd149fce… (all of the seat's roots in one cut). By AI agents, Wed Nov 11 2026. No macro, syntax, notation, axiom, sorry.
-/
import Derived.Test.YtfbajampfiodeaaChecked
import GoSem.Claim
import GoSem.ClaimJoined
import GoSem.ClaimMapViews
import Derived.JoinedTies
import Derived.KernelRfl
namespace Go.Proofs.Ytfbajampfiodeaa
/- THE CELL 'sum', in the pinned program and in every row, IS THE sha256 OF THE DUMP (.gsa) THAT YtfbajampfiodeaaProg.lean LOADS. Nothing in Lean hashes anything: it is a label: what it is worth is what the hold of that sum in a sandbox is worth. -/
noncomputable def Try.pinned : Pinned := { name := "ytfbajampfiodeaa", sum := "77cb7f50fd149fce076e2d554ae9ff9fcd44e9bb37bf50305b1c9d9b4feb2859", checked := Try.checked }
namespace Rows
def none {H : Type} : Left H := { results := [], args := [] }

/-- 'posternlaw06.ArrayPlays': WHATEVER THE INPUT: true; the input reads as it did. -/
def arrayPlaysSpec : ChangeSpec := { name := "arrayPlays", fn := fun _ => fun
  | [d1, d2] => { results := [.lit (.bool true)], args := [d1, d2] }
  | _ => none }
def arrayPlaysRow : OpenClaim := { program := "ytfbajampfiodeaa", sum := "77cb7f50fd149fce076e2d554ae9ff9fcd44e9bb37bf50305b1c9d9b4feb2859", func := "postern/posternlaw06.ArrayPlays", spec := "arrayPlays", apart := false }
def ArrayPlaysSaid : Prop := arrayPlaysRow.holds Try.pinned (OpenSpec.ofChange arrayPlaysSpec)

/-- ITS FALSE NEIGHBOUR: 'it returns false'. Refute it at one input. -/
def arrayPlaysWrong : ChangeSpec := { name := "arrayPlays", fn := fun _ => fun
  | [d1, d2] => { results := [.lit (.bool false)], args := [d1, d2] }
  | _ => none }
def ArrayPlaysWrongFalsely : Prop := arrayPlaysRow.holds Try.pinned (OpenSpec.ofChange arrayPlaysWrong)

/-- 'posternlaw06.ArrayCopies': WHATEVER THE INPUT: true; the input reads as it did. -/
def arrayCopiesSpec : ChangeSpec := { name := "arrayCopies", fn := fun _ => fun
  | [d1, d2, d3] => { results := [.lit (.bool true)], args := [d1, d2, d3] }
  | _ => none }
def arrayCopiesRow : OpenClaim := { program := "ytfbajampfiodeaa", sum := "77cb7f50fd149fce076e2d554ae9ff9fcd44e9bb37bf50305b1c9d9b4feb2859", func := "postern/posternlaw06.ArrayCopies", spec := "arrayCopies", apart := false }
def ArrayCopiesSaid : Prop := arrayCopiesRow.holds Try.pinned (OpenSpec.ofChange arrayCopiesSpec)

/-- ITS FALSE NEIGHBOUR: 'it returns false'. Refute it at one input. -/
def arrayCopiesWrong : ChangeSpec := { name := "arrayCopies", fn := fun _ => fun
  | [d1, d2, d3] => { results := [.lit (.bool false)], args := [d1, d2, d3] }
  | _ => none }
def ArrayCopiesWrongFalsely : Prop := arrayCopiesRow.holds Try.pinned (OpenSpec.ofChange arrayCopiesWrong)

/-- 'posternlaw07.HashPlays': WHATEVER THE INPUT: true; the input reads as it did. -/
def hashPlaysSpec : ChangeSpec := { name := "hashPlays", fn := fun _ => fun
  | [d1, d2] => { results := [.lit (.bool true)], args := [d1, d2] }
  | _ => none }
def hashPlaysRow : OpenClaim := { program := "ytfbajampfiodeaa", sum := "77cb7f50fd149fce076e2d554ae9ff9fcd44e9bb37bf50305b1c9d9b4feb2859", func := "postern/posternlaw07.HashPlays", spec := "hashPlays", apart := false }
def HashPlaysSaid : Prop := hashPlaysRow.holds Try.pinned (OpenSpec.ofChange hashPlaysSpec)

/-- ITS FALSE NEIGHBOUR: 'it returns false'. Refute it at one input. -/
def hashPlaysWrong : ChangeSpec := { name := "hashPlays", fn := fun _ => fun
  | [d1, d2] => { results := [.lit (.bool false)], args := [d1, d2] }
  | _ => none }
def HashPlaysWrongFalsely : Prop := hashPlaysRow.holds Try.pinned (OpenSpec.ofChange hashPlaysWrong)

/-- 'posternlaw07.HashSlots': WHATEVER THE INPUT: true; the input reads as it did. -/
def hashSlotsSpec : ChangeSpec := { name := "hashSlots", fn := fun _ => fun
  | [d1, d2] => { results := [.lit (.bool true)], args := [d1, d2] }
  | _ => none }
def hashSlotsRow : OpenClaim := { program := "ytfbajampfiodeaa", sum := "77cb7f50fd149fce076e2d554ae9ff9fcd44e9bb37bf50305b1c9d9b4feb2859", func := "postern/posternlaw07.HashSlots", spec := "hashSlots", apart := false }
def HashSlotsSaid : Prop := hashSlotsRow.holds Try.pinned (OpenSpec.ofChange hashSlotsSpec)

/-- ITS FALSE NEIGHBOUR: 'it returns false'. Refute it at one input. -/
def hashSlotsWrong : ChangeSpec := { name := "hashSlots", fn := fun _ => fun
  | [d1, d2] => { results := [.lit (.bool false)], args := [d1, d2] }
  | _ => none }
def HashSlotsWrongFalsely : Prop := hashSlotsRow.holds Try.pinned (OpenSpec.ofChange hashSlotsWrong)

/-- 'posternlaw07.HashCopies': WHATEVER THE INPUT: true; the input reads as it did. -/
def hashCopiesSpec : ChangeSpec := { name := "hashCopies", fn := fun _ => fun
  | [d1, d2, d3] => { results := [.lit (.bool true)], args := [d1, d2, d3] }
  | _ => none }
def hashCopiesRow : OpenClaim := { program := "ytfbajampfiodeaa", sum := "77cb7f50fd149fce076e2d554ae9ff9fcd44e9bb37bf50305b1c9d9b4feb2859", func := "postern/posternlaw07.HashCopies", spec := "hashCopies", inPlace := ["maps.clone"], apart := false }
def HashCopiesSaid : Prop := hashCopiesRow.holds Try.pinned (OpenSpec.ofChange hashCopiesSpec)

/-- ITS FALSE NEIGHBOUR: 'it returns false'. Refute it at one input. -/
def hashCopiesWrong : ChangeSpec := { name := "hashCopies", fn := fun _ => fun
  | [d1, d2, d3] => { results := [.lit (.bool false)], args := [d1, d2, d3] }
  | _ => none }
def HashCopiesWrongFalsely : Prop := hashCopiesRow.holds Try.pinned (OpenSpec.ofChange hashCopiesWrong)

/-- 'posternlaw08.LruKeeps': WHATEVER THE INPUT: true; the input reads as it did. -/
def lruKeepsSpec : ChangeSpec := { name := "lruKeeps", fn := fun _ => fun
  | [d1, d2] => { results := [.lit (.bool true)], args := [d1, d2] }
  | _ => none }
def lruKeepsRow : OpenClaim := { program := "ytfbajampfiodeaa", sum := "77cb7f50fd149fce076e2d554ae9ff9fcd44e9bb37bf50305b1c9d9b4feb2859", func := "postern/posternlaw08.LruKeeps", spec := "lruKeeps", unfollowed := true, recurses := true, apart := false }
def LruKeepsSaid : Prop := lruKeepsRow.holds Try.pinned (OpenSpec.ofChange lruKeepsSpec)

/-- ITS FALSE NEIGHBOUR: 'it returns false'. Refute it at one input. -/
def lruKeepsWrong : ChangeSpec := { name := "lruKeeps", fn := fun _ => fun
  | [d1, d2] => { results := [.lit (.bool false)], args := [d1, d2] }
  | _ => none }
def LruKeepsWrongFalsely : Prop := lruKeepsRow.holds Try.pinned (OpenSpec.ofChange lruKeepsWrong)

/-- 'posternlaw08.LruPlays': WHATEVER THE INPUT: true; the input reads as it did. -/
def lruPlaysSpec : ChangeSpec := { name := "lruPlays", fn := fun _ => fun
  | [d1, d2] => { results := [.lit (.bool true)], args := [d1, d2] }
  | _ => none }
def lruPlaysRow : OpenClaim := { program := "ytfbajampfiodeaa", sum := "77cb7f50fd149fce076e2d554ae9ff9fcd44e9bb37bf50305b1c9d9b4feb2859", func := "postern/posternlaw08.LruPlays", spec := "lruPlays", unfollowed := true, recurses := true, apart := false }
def LruPlaysSaid : Prop := lruPlaysRow.holds Try.pinned (OpenSpec.ofChange lruPlaysSpec)

/-- ITS FALSE NEIGHBOUR: 'it returns false'. Refute it at one input. -/
def lruPlaysWrong : ChangeSpec := { name := "lruPlays", fn := fun _ => fun
  | [d1, d2] => { results := [.lit (.bool false)], args := [d1, d2] }
  | _ => none }
def LruPlaysWrongFalsely : Prop := lruPlaysRow.holds Try.pinned (OpenSpec.ofChange lruPlaysWrong)

/-- 'posternlaw08.LruCopies': WHATEVER THE INPUT: true; the input reads as it did. -/
def lruCopiesSpec : ChangeSpec := { name := "lruCopies", fn := fun _ => fun
  | [d1, d2, d3] => { results := [.lit (.bool true)], args := [d1, d2, d3] }
  | _ => none }
def lruCopiesRow : OpenClaim := { program := "ytfbajampfiodeaa", sum := "77cb7f50fd149fce076e2d554ae9ff9fcd44e9bb37bf50305b1c9d9b4feb2859", func := "postern/posternlaw08.LruCopies", spec := "lruCopies", unfollowed := true, recurses := true, apart := false }
def LruCopiesSaid : Prop := lruCopiesRow.holds Try.pinned (OpenSpec.ofChange lruCopiesSpec)

/-- ITS FALSE NEIGHBOUR: 'it returns false'. Refute it at one input. -/
def lruCopiesWrong : ChangeSpec := { name := "lruCopies", fn := fun _ => fun
  | [d1, d2, d3] => { results := [.lit (.bool false)], args := [d1, d2, d3] }
  | _ => none }
def LruCopiesWrongFalsely : Prop := lruCopiesRow.holds Try.pinned (OpenSpec.ofChange lruCopiesWrong)

/-- 'posternlaw08.LruTwins': WHATEVER THE INPUT: true; the input reads as it did. -/
def lruTwinsSpec : ChangeSpec := { name := "lruTwins", fn := fun _ => fun
  | [d1, d2] => { results := [.lit (.bool true)], args := [d1, d2] }
  | _ => none }
def lruTwinsRow : OpenClaim := { program := "ytfbajampfiodeaa", sum := "77cb7f50fd149fce076e2d554ae9ff9fcd44e9bb37bf50305b1c9d9b4feb2859", func := "postern/posternlaw08.LruTwins", spec := "lruTwins", unfollowed := true, recurses := true, apart := false }
def LruTwinsSaid : Prop := lruTwinsRow.holds Try.pinned (OpenSpec.ofChange lruTwinsSpec)

/-- ITS FALSE NEIGHBOUR: 'it returns false'. Refute it at one input. -/
def lruTwinsWrong : ChangeSpec := { name := "lruTwins", fn := fun _ => fun
  | [d1, d2] => { results := [.lit (.bool false)], args := [d1, d2] }
  | _ => none }
def LruTwinsWrongFalsely : Prop := lruTwinsRow.holds Try.pinned (OpenSpec.ofChange lruTwinsWrong)

/-- 'posternlaw09.LpmLongest': WHATEVER THE INPUT: true; the input reads as it did. -/
def lpmLongestSpec : ChangeSpec := { name := "lpmLongest", fn := fun _ => fun
  | [d1, d2, d3] => { results := [.lit (.bool true)], args := [d1, d2, d3] }
  | _ => none }
def lpmLongestRow : OpenClaim := { program := "ytfbajampfiodeaa", sum := "77cb7f50fd149fce076e2d554ae9ff9fcd44e9bb37bf50305b1c9d9b4feb2859", func := "postern/posternlaw09.LpmLongest", spec := "lpmLongest", apart := false }
def LpmLongestSaid : Prop := lpmLongestRow.holds Try.pinned (OpenSpec.ofChange lpmLongestSpec)

/-- ITS FALSE NEIGHBOUR: 'it returns false'. Refute it at one input. -/
def lpmLongestWrong : ChangeSpec := { name := "lpmLongest", fn := fun _ => fun
  | [d1, d2, d3] => { results := [.lit (.bool false)], args := [d1, d2, d3] }
  | _ => none }
def LpmLongestWrongFalsely : Prop := lpmLongestRow.holds Try.pinned (OpenSpec.ofChange lpmLongestWrong)

/-- 'posternlaw09.LpmPlays': WHATEVER THE INPUT: true; the input reads as it did. -/
def lpmPlaysSpec : ChangeSpec := { name := "lpmPlays", fn := fun _ => fun
  | [d1, d2] => { results := [.lit (.bool true)], args := [d1, d2] }
  | _ => none }
def lpmPlaysRow : OpenClaim := { program := "ytfbajampfiodeaa", sum := "77cb7f50fd149fce076e2d554ae9ff9fcd44e9bb37bf50305b1c9d9b4feb2859", func := "postern/posternlaw09.LpmPlays", spec := "lpmPlays", apart := false }
def LpmPlaysSaid : Prop := lpmPlaysRow.holds Try.pinned (OpenSpec.ofChange lpmPlaysSpec)

/-- ITS FALSE NEIGHBOUR: 'it returns false'. Refute it at one input. -/
def lpmPlaysWrong : ChangeSpec := { name := "lpmPlays", fn := fun _ => fun
  | [d1, d2] => { results := [.lit (.bool false)], args := [d1, d2] }
  | _ => none }
def LpmPlaysWrongFalsely : Prop := lpmPlaysRow.holds Try.pinned (OpenSpec.ofChange lpmPlaysWrong)

/-- 'posternlaw09.LpmForms': WHATEVER THE INPUT: true; the input reads as it did. -/
def lpmFormsSpec : ChangeSpec := { name := "lpmForms", fn := fun _ => fun
  | [d1, d2, d3] => { results := [.lit (.bool true)], args := [d1, d2, d3] }
  | _ => none }
def lpmFormsRow : OpenClaim := { program := "ytfbajampfiodeaa", sum := "77cb7f50fd149fce076e2d554ae9ff9fcd44e9bb37bf50305b1c9d9b4feb2859", func := "postern/posternlaw09.LpmForms", spec := "lpmForms", apart := false }
def LpmFormsSaid : Prop := lpmFormsRow.holds Try.pinned (OpenSpec.ofChange lpmFormsSpec)

/-- ITS FALSE NEIGHBOUR: 'it returns false'. Refute it at one input. -/
def lpmFormsWrong : ChangeSpec := { name := "lpmForms", fn := fun _ => fun
  | [d1, d2, d3] => { results := [.lit (.bool false)], args := [d1, d2, d3] }
  | _ => none }
def LpmFormsWrongFalsely : Prop := lpmFormsRow.holds Try.pinned (OpenSpec.ofChange lpmFormsWrong)

/-- 'posternlaw09.LpmCopies': WHATEVER THE INPUT: true; the input reads as it did. -/
def lpmCopiesSpec : ChangeSpec := { name := "lpmCopies", fn := fun _ => fun
  | [d1, d2, d3] => { results := [.lit (.bool true)], args := [d1, d2, d3] }
  | _ => none }
def lpmCopiesRow : OpenClaim := { program := "ytfbajampfiodeaa", sum := "77cb7f50fd149fce076e2d554ae9ff9fcd44e9bb37bf50305b1c9d9b4feb2859", func := "postern/posternlaw09.LpmCopies", spec := "lpmCopies", apart := false }
def LpmCopiesSaid : Prop := lpmCopiesRow.holds Try.pinned (OpenSpec.ofChange lpmCopiesSpec)

/-- ITS FALSE NEIGHBOUR: 'it returns false'. Refute it at one input. -/
def lpmCopiesWrong : ChangeSpec := { name := "lpmCopies", fn := fun _ => fun
  | [d1, d2, d3] => { results := [.lit (.bool false)], args := [d1, d2, d3] }
  | _ => none }
def LpmCopiesWrongFalsely : Prop := lpmCopiesRow.holds Try.pinned (OpenSpec.ofChange lpmCopiesWrong)

/- THE SECOND FORM. 'bulk': how many values and letters a reading holds, each counted each time it is reached (what is shared counts as often as it is met; a slice's spare places count too). A statement '..UptoSaid' is the law's where the arguments, and the package variables that the reading takes, are together of bulk at most 1048576: NARROWER than '..Said'. Prove '..Said' where nothing that the law and all that it calls make is longer than what came in: it says more and counts as full. Else prove '..UptoSaid'. A law counts once. -/
mutual
def uptoBulk {H : Type} : DataW H → Nat
  | .lit (.string bytes) => bytes.length + 1
  | .lit _ => 1
  | .nil => 1
  | .ptr d => uptoBulk d + 1
  | .slice elems spare => uptoBulkAll elems + uptoBulkAll spare + 1
  | .agg parts => uptoBulkAll parts + 1
  | .iface _ d => uptoBulk d + 1
  | .map entries => uptoBulkEntries entries + 1
  | .held _ => 1
def uptoBulkAll {H : Type} : List (DataW H) → Nat
  | [] => 0
  | d :: r => uptoBulk d + uptoBulkAll r
def uptoBulkEntries {H : Type} : List (Lit × DataW H) → Nat
  | [] => 0
  | x :: r => uptoBulkEntry x + uptoBulkEntries r
def uptoBulkEntry {H : Type} : Lit × DataW H → Nat
  | (.string bytes, d) => bytes.length + uptoBulk d + 1
  | (_, d) => uptoBulk d + 1
 end
def uptoSmall : (H : Type) → List (DataW H) → Bool := fun _ ds => decide (uptoBulkAll ds ≤ 1048576)
def OpenSpec.upto (s : _root_.Go.ChangeSpec) : _root_.Go.OpenSpec := { _root_.Go.OpenSpec.ofChange s with cond := some uptoSmall }

/-- 'posternlaw06.ArrayPlays', WHERE WHAT IT READS IS OF BULK AT MOST 1048576: true; the input reads as it did. -/
def arrayPlaysUptoRow : OpenClaim := { program := "ytfbajampfiodeaa", sum := "77cb7f50fd149fce076e2d554ae9ff9fcd44e9bb37bf50305b1c9d9b4feb2859", func := "postern/posternlaw06.ArrayPlays", spec := "arrayPlays", apart := false, narrowed := true }
def ArrayPlaysUptoSaid : Prop := arrayPlaysUptoRow.holds Try.pinned (OpenSpec.upto arrayPlaysSpec)

/-- 'posternlaw06.ArrayCopies', WHERE WHAT IT READS IS OF BULK AT MOST 1048576: true; the input reads as it did. -/
def arrayCopiesUptoRow : OpenClaim := { program := "ytfbajampfiodeaa", sum := "77cb7f50fd149fce076e2d554ae9ff9fcd44e9bb37bf50305b1c9d9b4feb2859", func := "postern/posternlaw06.ArrayCopies", spec := "arrayCopies", apart := false, narrowed := true }
def ArrayCopiesUptoSaid : Prop := arrayCopiesUptoRow.holds Try.pinned (OpenSpec.upto arrayCopiesSpec)

/-- 'posternlaw07.HashPlays', WHERE WHAT IT READS IS OF BULK AT MOST 1048576: true; the input reads as it did. -/
def hashPlaysUptoRow : OpenClaim := { program := "ytfbajampfiodeaa", sum := "77cb7f50fd149fce076e2d554ae9ff9fcd44e9bb37bf50305b1c9d9b4feb2859", func := "postern/posternlaw07.HashPlays", spec := "hashPlays", apart := false, narrowed := true }
def HashPlaysUptoSaid : Prop := hashPlaysUptoRow.holds Try.pinned (OpenSpec.upto hashPlaysSpec)

/-- 'posternlaw07.HashSlots', WHERE WHAT IT READS IS OF BULK AT MOST 1048576: true; the input reads as it did. -/
def hashSlotsUptoRow : OpenClaim := { program := "ytfbajampfiodeaa", sum := "77cb7f50fd149fce076e2d554ae9ff9fcd44e9bb37bf50305b1c9d9b4feb2859", func := "postern/posternlaw07.HashSlots", spec := "hashSlots", apart := false, narrowed := true }
def HashSlotsUptoSaid : Prop := hashSlotsUptoRow.holds Try.pinned (OpenSpec.upto hashSlotsSpec)

/-- 'posternlaw07.HashCopies', WHERE WHAT IT READS IS OF BULK AT MOST 1048576: true; the input reads as it did. -/
def hashCopiesUptoRow : OpenClaim := { program := "ytfbajampfiodeaa", sum := "77cb7f50fd149fce076e2d554ae9ff9fcd44e9bb37bf50305b1c9d9b4feb2859", func := "postern/posternlaw07.HashCopies", spec := "hashCopies", inPlace := ["maps.clone"], apart := false, narrowed := true }
def HashCopiesUptoSaid : Prop := hashCopiesUptoRow.holds Try.pinned (OpenSpec.upto hashCopiesSpec)

/-- 'posternlaw08.LruKeeps', WHERE WHAT IT READS IS OF BULK AT MOST 1048576: true; the input reads as it did. -/
def lruKeepsUptoRow : OpenClaim := { program := "ytfbajampfiodeaa", sum := "77cb7f50fd149fce076e2d554ae9ff9fcd44e9bb37bf50305b1c9d9b4feb2859", func := "postern/posternlaw08.LruKeeps", spec := "lruKeeps", unfollowed := true, recurses := true, apart := false, narrowed := true }
def LruKeepsUptoSaid : Prop := lruKeepsUptoRow.holds Try.pinned (OpenSpec.upto lruKeepsSpec)

/-- 'posternlaw08.LruPlays', WHERE WHAT IT READS IS OF BULK AT MOST 1048576: true; the input reads as it did. -/
def lruPlaysUptoRow : OpenClaim := { program := "ytfbajampfiodeaa", sum := "77cb7f50fd149fce076e2d554ae9ff9fcd44e9bb37bf50305b1c9d9b4feb2859", func := "postern/posternlaw08.LruPlays", spec := "lruPlays", unfollowed := true, recurses := true, apart := false, narrowed := true }
def LruPlaysUptoSaid : Prop := lruPlaysUptoRow.holds Try.pinned (OpenSpec.upto lruPlaysSpec)

/-- 'posternlaw08.LruCopies', WHERE WHAT IT READS IS OF BULK AT MOST 1048576: true; the input reads as it did. -/
def lruCopiesUptoRow : OpenClaim := { program := "ytfbajampfiodeaa", sum := "77cb7f50fd149fce076e2d554ae9ff9fcd44e9bb37bf50305b1c9d9b4feb2859", func := "postern/posternlaw08.LruCopies", spec := "lruCopies", unfollowed := true, recurses := true, apart := false, narrowed := true }
def LruCopiesUptoSaid : Prop := lruCopiesUptoRow.holds Try.pinned (OpenSpec.upto lruCopiesSpec)

/-- 'posternlaw08.LruTwins', WHERE WHAT IT READS IS OF BULK AT MOST 1048576: true; the input reads as it did. -/
def lruTwinsUptoRow : OpenClaim := { program := "ytfbajampfiodeaa", sum := "77cb7f50fd149fce076e2d554ae9ff9fcd44e9bb37bf50305b1c9d9b4feb2859", func := "postern/posternlaw08.LruTwins", spec := "lruTwins", unfollowed := true, recurses := true, apart := false, narrowed := true }
def LruTwinsUptoSaid : Prop := lruTwinsUptoRow.holds Try.pinned (OpenSpec.upto lruTwinsSpec)

/-- 'posternlaw09.LpmLongest', WHERE WHAT IT READS IS OF BULK AT MOST 1048576: true; the input reads as it did. -/
def lpmLongestUptoRow : OpenClaim := { program := "ytfbajampfiodeaa", sum := "77cb7f50fd149fce076e2d554ae9ff9fcd44e9bb37bf50305b1c9d9b4feb2859", func := "postern/posternlaw09.LpmLongest", spec := "lpmLongest", apart := false, narrowed := true }
def LpmLongestUptoSaid : Prop := lpmLongestUptoRow.holds Try.pinned (OpenSpec.upto lpmLongestSpec)

/-- 'posternlaw09.LpmPlays', WHERE WHAT IT READS IS OF BULK AT MOST 1048576: true; the input reads as it did. -/
def lpmPlaysUptoRow : OpenClaim := { program := "ytfbajampfiodeaa", sum := "77cb7f50fd149fce076e2d554ae9ff9fcd44e9bb37bf50305b1c9d9b4feb2859", func := "postern/posternlaw09.LpmPlays", spec := "lpmPlays", apart := false, narrowed := true }
def LpmPlaysUptoSaid : Prop := lpmPlaysUptoRow.holds Try.pinned (OpenSpec.upto lpmPlaysSpec)

/-- 'posternlaw09.LpmForms', WHERE WHAT IT READS IS OF BULK AT MOST 1048576: true; the input reads as it did. -/
def lpmFormsUptoRow : OpenClaim := { program := "ytfbajampfiodeaa", sum := "77cb7f50fd149fce076e2d554ae9ff9fcd44e9bb37bf50305b1c9d9b4feb2859", func := "postern/posternlaw09.LpmForms", spec := "lpmForms", apart := false, narrowed := true }
def LpmFormsUptoSaid : Prop := lpmFormsUptoRow.holds Try.pinned (OpenSpec.upto lpmFormsSpec)

/-- 'posternlaw09.LpmCopies', WHERE WHAT IT READS IS OF BULK AT MOST 1048576: true; the input reads as it did. -/
def lpmCopiesUptoRow : OpenClaim := { program := "ytfbajampfiodeaa", sum := "77cb7f50fd149fce076e2d554ae9ff9fcd44e9bb37bf50305b1c9d9b4feb2859", func := "postern/posternlaw09.LpmCopies", spec := "lpmCopies", apart := false, narrowed := true }
def LpmCopiesUptoSaid : Prop := lpmCopiesUptoRow.holds Try.pinned (OpenSpec.upto lpmCopiesSpec)

end Rows
end Go.Proofs.Ytfbajampfiodeaa
