/- The keys of an array (array.New, Find, Put, Del, Copy): what each call answers, walked by hand. -/
import Derived.Test.YtndgpadeiljlnaaPArrayAllx
import Derived.WalkSpells
import Derived.LaidEqlPtr
import Derived.WalkLawsBesides
namespace Go.Proofs.Ytndgpadeiljlnaa.Arr
open Go.RowKit Go.Proofs.Ytndgpadeiljlnaa.PArrayAll Go.Proofs.YtndgpadeiljlnaaW.PrintWords Go.Proofs.YtndgpadeiljlnaaW.PrintLast Go.Proofs.YtndgpadeiljlnaaW.PrintMore
set_option linter.unusedVariables false

/-- An index that holds the numbers below m. -/
def Arr (w : World) (g : Nat) (m : Int) : Prop := w.heap[g]? = some (.cells #[.int .i64 m] 64 (0, 0))

theorem New_bad (m : Int) (w : World) (h : m < 1 ∨ m > 64) :
    Calls Try.prog 10 #[.int .i64 m] w fun e w' => e = .returned (.tuple #[.pointer none, .int .i64 2]) ∧ w = w' := by
  by_cases h1 : m < 1
  · go_enter Try.func10, Try.ntmps10
    go_wp2
    go_ret2
    exact ⟨rfl, rfl⟩
  · have h2 : m > 64 := by omega
    go_enter Try.func10, Try.ntmps10
    go_wp2
    go_ret2
    exact ⟨rfl, rfl⟩
theorem New_ok (m : Int) (w : World) (h1 : 1 ≤ m) (h2 : m ≤ 64) :
    Calls Try.prog 10 #[.int .i64 m] w fun e w' => e = .returned (.tuple #[.pointer (some ⟨w.heap.size, 0, none⟩), .int .i64 0]) ∧ w' = w.alloc (.cells #[.int .i64 m] 64) := by
  go_enter Try.func10, Try.ntmps10
  go_wp2
  go_ret2
  exact ⟨rfl, rfl⟩
theorem Del_nil (v : Value) (w : World) :
    Calls Try.prog 17 #[.pointer none, v] w fun e w' => e = .returned (.tuple #[.int .i64 0, .int .i64 1]) ∧ w = w' := by
  go_enter Try.func17, Try.ntmps17
  go_wp2
  go_ret2
  exact ⟨rfl, rfl⟩
theorem Del_ (a : Addr) (v : Value) (w : World) :
    Calls Try.prog 17 #[.pointer (some a), v] w fun e w' => e = .returned (.tuple #[.int .i64 0, .int .i64 2]) ∧ w = w' := by
  go_enter Try.func17, Try.ntmps17
  go_wp2
  go_ret2
  exact ⟨rfl, rfl⟩
theorem Copy_nil (w : World) : Calls Try.prog 19 #[.pointer none] w fun e w' => e = .returned (.pointer none) ∧ w = w' := by
  go_enter Try.func19, Try.ntmps19
  go_wp2
  go_ret
  exact ⟨rfl, rfl⟩
theorem Copy_ (g : Nat) (m : Int) (w : World) (h : Arr w g m) : Calls Try.prog 19 #[.pointer (some ⟨g, 0, none⟩)] w fun e w' => e = .returned (.pointer (some ⟨w.heap.size, 0, none⟩)) ∧ w' = w.alloc (.cells #[.int .i64 m] 64) := by
  have hc : w.cell? ⟨g, 0, none⟩ = some (.int .i64 m) := (blk_cell h 0).trans rfl
  go_enter Try.func19, Try.ntmps19
  go_wp2
  go_ret
  exact ⟨rfl, rfl⟩
end Go.Proofs.Ytndgpadeiljlnaa.Arr
