/- mem.Memory: Load, walked by hand, over what Read answers. -/
import Derived.Test.YtpjgaacdohiomaaMem4
namespace Go.Proofs.Ytpjgaacdohiomaa.Mem5
open Go.RowKit Go.Proofs.Ytpjgaacdohiomaa.PMemCopies Go.Proofs.YtpjgaacdohiomaaW.PrintWords Go.Proofs.YtpjgaacdohiomaaW.PrintLast Go.Proofs.YtpjgaacdohiomaaW.PrintMore Go.Proofs.Ytpjgaacdohiomaa.Mw Go.Proofs.Ytpjgaacdohiomaa.Mem1 Go.Proofs.Ytpjgaacdohiomaa.Mem2 Go.Proofs.Ytpjgaacdohiomaa.Mem3 Go.Proofs.Ytpjgaacdohiomaa.Mem4
set_option linter.unusedVariables false
set_option linter.unusedSimpArgs false
theorem rowC {w : World} {b : Nat} {l : List Int} (h : Row w b 5 (l.map (Value.int .u8))) (hl : l.length ≤ 9223372036854775807) : Kd.C (Kd.int .u8) w (some ⟨b, 0, none⟩) l.length l := by
  refine Kd.C_of_reads (d := (0 : Int)) (h1 := fun _ => rfl) ⟨rfl, hl, fun _ => ⟨_, rfl, fun j hj => ?_⟩⟩
  rw [add_plain, h.cell j (by simpa using hj), List.getElem_map, List.getD_eq_getElem?_getD, List.getElem?_eq_getElem hj]
  rfl
theorem Load_arg (g : Nat) (a s : Int) (w : World) (h1 : s ≠ 1) (h2 : s ≠ 2) (h4 : s ≠ 4) (h8 : s ≠ 8) :
    Calls Try.prog 16 #[.pointer (some ⟨g, 0, none⟩), .int .u64 a, .int .i64 s] w fun e w' => e = .returned (.tuple #[.int .u64 0, .int .i64 2]) ∧ w = w' := by
  have b1 : (s != 1) = true := by simpa using h1
  have b2 : (s != 2) = true := by simpa using h2
  have b4 : (s != 4) = true := by simpa using h4
  have b8 : (s != 8) = true := by simpa using h8
  clear h1 h2 h4 h8
  go_enter Try.func16, Try.ntmps16
  go_wp2
  go_ret2
  exact ⟨rfl, rfl⟩
theorem Load_fail (g : Nat) (a s er : Int) (w : World) (hs : s = 1 ∨ s = 2 ∨ s = 4 ∨ s = 8) (he : er ≠ 0)
    (hR : Calls Try.prog 17 #[.pointer (some ⟨g, 0, none⟩), .int .u64 a, .int .i64 s] w fun e w' => e = .returned (.tuple #[.slice none 0 0, .int .i64 er]) ∧ w = w') :
    Calls Try.prog 16 #[.pointer (some ⟨g, 0, none⟩), .int .u64 a, .int .i64 s] w fun e w' => e = .returned (.tuple #[.int .u64 0, .int .i64 er]) ∧ w = w' := by
  have HR := Lib.hid hR
  have be : (er != 0) = true := by simpa using he
  clear hR he
  rcases hs with rfl | rfl | rfl | rfl
  all_goals
    go_enter Try.func16, Try.ntmps16
    go_wp2_with fail
    refine HR.out.mono ?_
    rintro e w1 ⟨rfl, rfl⟩
    go_wp2
    go_ret2
    exact ⟨rfl, rfl⟩
theorem Load_ok (g : Nat) (a s v : Int) (l : List Int) (w : World) (hs : s = 1 ∨ s = 2 ∨ s = 4 ∨ s = 8) (hl : (l.length : Int) = s) (hv : le_Num.f 9 l = some v)
    (hR : Calls Try.prog 17 #[.pointer (some ⟨g, 0, none⟩), .int .u64 a, .int .i64 s] w fun x w' => ∃ b c, x = .returned (.tuple #[.slice (some ⟨b, 0, none⟩) l.length c, .int .i64 0]) ∧ l.length ≤ c ∧ Row w' b 5 (l.map (Value.int .u8)) ∧ Below w.heap.size w w') :
    Calls Try.prog 16 #[.pointer (some ⟨g, 0, none⟩), .int .u64 a, .int .i64 s] w fun e w' => e = .returned (.tuple #[.int .u64 v, .int .i64 0]) ∧ Below w.heap.size w w' := by
  have HR := Lib.hid hR
  have HV := Lib.hid hv
  have HL := Lib.hid (show l.length ≤ 8 by omega)
  clear hR hv hl
  rcases hs with rfl | rfl | rfl | rfl
  all_goals
    go_enter Try.func16, Try.ntmps16
    go_wp2_with fail
    refine HR.out.mono ?_
    rintro e w1 ⟨b, c, rfl, h1, h2, h3⟩
    have HB := Lib.hid h3
    have HN := Lib.hid (le_Num.calls 9 (some ⟨b, 0, none⟩) c l v w1 (rowC h2 (by have := HL.out; omega)) h1 HV.out)
    clear h1 h2 h3
    go_wp2_with fail
    refine HN.out.mono ?_
    rintro e w2 ⟨rfl, ⟨n, rfl⟩⟩
    go_wp2
    go_ret2
    exact ⟨rfl, pw_below_drewN HB.out n⟩
end Go.Proofs.Ytpjgaacdohiomaa.Mem5
