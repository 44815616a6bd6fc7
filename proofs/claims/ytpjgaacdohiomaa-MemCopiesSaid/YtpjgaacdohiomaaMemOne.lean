/- mem: one call of both memories (the program's and the document's): the walk of the law's own function 'one', whatever the two calls answer. -/
import Derived.Test.YtpjgaacdohiomaaMemR3
import Derived.Deep.RegionHeld3
namespace Go.Proofs.Ytpjgaacdohiomaa.MemOne
open Go.RowKit Go.Proofs.Ytpjgaacdohiomaa.PMemCopies Go.Proofs.YtpjgaacdohiomaaW.PrintWords Go.Proofs.YtpjgaacdohiomaaW.PrintLast Go.Proofs.YtpjgaacdohiomaaW.PrintMore Go.Proofs.Ytpjgaacdohiomaa.Mw
set_option linter.unusedVariables false
set_option linter.unusedSimpArgs false
attribute [local go_sem] max2_int min2_int max_two min_two max_three min_three max_four min_four
/-- The op's own cells, and its bytes. -/
def Held (bx : Nat) (kd ad n m v : Int) (A : Option Addr) (l : List Int) (c : Nat) (w : World) : Prop :=
  w.heap[bx]? = some (.cells #[.int .i64 kd, .int .u64 ad, .int .i64 n, .int .i64 m, .int .u64 v, .slice A l.length c] 54 (0, 0)) ∧ Kd.C (Kd.int .u8) w A l.length l
section
variable {bx : Nat} {kd ad n m v : Int} {A : Option Addr} {l : List Int} {c : Nat} {w : World}
theorem Held.cells (h : Held bx kd ad n m v A l c w) : w.cell? ⟨bx, 0, none⟩ = some (.int .i64 kd) ∧ w.cell? ⟨bx, 1, none⟩ = some (.int .u64 ad) ∧ w.cell? ⟨bx, 2, none⟩ = some (.int .i64 n) ∧ w.cell? ⟨bx, 3, none⟩ = some (.int .i64 m) ∧ w.cell? ⟨bx, 4, none⟩ = some (.int .u64 v) ∧ w.cell? ⟨bx, 5, none⟩ = some (.slice A l.length c) :=
  ⟨(blk_cell h.1 0).trans rfl, (blk_cell h.1 1).trans rfl, (blk_cell h.1 2).trans rfl, (blk_cell h.1 3).trans rfl, (blk_cell h.1 4).trans rfl, (blk_cell h.1 5).trans rfl⟩
theorem Held.drew (h : Held bx kd ad n m v A l c w) : Held bx kd ad n m v A l c w.drew := ⟨h.1, Kd.C_below h.2 (below_drew (Below.refl _ _))⟩
end

set_option maxRecDepth 100000 in
set_option maxHeartbeats 4000000 in
theorem one_load (w : World) (X R : Value) (kd ad n m v : Int) (A : Option Addr) (c : Nat) (l : List Int) (hC : Kd.C (Kd.int .u8) w A l.length l) (h : (IntKind.u64.wrap kd).tmod 9 = 2) (x er : Int) (P Q : World → Prop) (hPH : ∀ W, P W → Held w.heap.size kd ad n m v A l c W) (hQH : ∀ W, Q W → Held w.heap.size kd ad n m v A l c W)
    (h1 : Calls Try.prog 16 #[X, .int .u64 ad, .int .i64 n] (w.alloc (.cells #[.int .i64 kd, .int .u64 ad, .int .i64 n, .int .i64 m, .int .u64 v, .slice A l.length c] 54)) fun e W => e = .returned (.tuple #[.int .u64 x, .int .i64 er]) ∧ P W)
    (h2 : ∀ W, P W → Calls Try.prog 51 #[R, .int .u64 ad, .int .i64 n] W fun e W => e = .returned (.tuple #[.int .u64 x, .int .i64 er]) ∧ Q W) :
    Calls Try.prog 23 #[X, R, .agg #[.int .i64 kd, .int .u64 ad, .int .i64 n, .int .i64 m, .int .u64 v, .slice A l.length c]] w fun e w' => e = .returned (.bool true) ∧ Q w' := by
  have H1 := Lib.hid h1; have H2 := Lib.hid h2; have HP := Lib.hid hPH; have HQ := Lib.hid hQH; have HC := Lib.hid hC
  have t0 : ((IntKind.u64.wrap kd).tmod 9 == 0) = false := by rw [h]; rfl
  have t1 : ((IntKind.u64.wrap kd).tmod 9 == 1) = false := by rw [h]; rfl
  have t2 : ((IntKind.u64.wrap kd).tmod 9 == 2) = true := by rw [h]; rfl
  clear h1 h2 hPH hQH hC h
  go_enter Try.func23, Try.ntmps23
  go_wp2_with fail
  refine H1.out.mono ?_
  rintro e w1 ⟨rfl, hP⟩
  obtain ⟨k0, k1, k2, k3, k4, k5⟩ := (HP.out _ hP).cells
  have HPW := Lib.hid hP
  clear hP
  go_wp2_with fail
  refine (H2.out _ HPW.out).mono ?_
  rintro e w2 ⟨rfl, hQ⟩
  have HQW := Lib.hid hQ
  clear hQ k0 k1 k2 k3 k4 k5
  go_wp2
  go_ret
  exact ⟨rfl, HQW.out⟩

set_option maxRecDepth 100000 in
set_option maxHeartbeats 4000000 in
theorem one_read (w : World) (X R : Value) (kd ad n m v : Int) (A : Option Addr) (c : Nat) (l : List Int) (hC : Kd.C (Kd.int .u8) w A l.length l) (h : (IntKind.u64.wrap kd).tmod 9 = 4) (xs : List Int) (er : Int) (P Q : World → Prop) (hPH : ∀ W, P W → Held w.heap.size kd ad n m v A l c W) (hQH : ∀ W, Q W → Held w.heap.size kd ad n m v A l c W)
    (h1 : Calls Try.prog 17 #[X, .int .u64 ad, .int .i64 n] (w.alloc (.cells #[.int .i64 kd, .int .u64 ad, .int .i64 n, .int .i64 m, .int .u64 v, .slice A l.length c] 54)) fun e W => ∃ A1 c1, e = .returned (.tuple #[.slice A1 xs.length c1, .int .i64 er]) ∧ Kd.C (Kd.int .u8) W A1 xs.length xs ∧ P W)
    (h2 : ∀ W A1, P W → Kd.C (Kd.int .u8) W A1 xs.length xs → Calls Try.prog 52 #[R, .int .u64 ad, .int .i64 n] W fun e W => ∃ A2 c2, e = .returned (.tuple #[.slice A2 xs.length c2, .int .i64 er]) ∧ Kd.C (Kd.int .u8) W A1 xs.length xs ∧ Kd.C (Kd.int .u8) W A2 xs.length xs ∧ Q W) :
    Calls Try.prog 23 #[X, R, .agg #[.int .i64 kd, .int .u64 ad, .int .i64 n, .int .i64 m, .int .u64 v, .slice A l.length c]] w fun e w' => e = .returned (.bool true) ∧ Q w' := by
  have H1 := Lib.hid h1; have H2 := Lib.hid h2; have HP := Lib.hid hPH; have HQ := Lib.hid hQH; have HC := Lib.hid hC
  have t0 : ((IntKind.u64.wrap kd).tmod 9 == 0) = false := by rw [h]; rfl
  have t1 : ((IntKind.u64.wrap kd).tmod 9 == 1) = false := by rw [h]; rfl
  have t2 : ((IntKind.u64.wrap kd).tmod 9 == 2) = false := by rw [h]; rfl
  have t3 : ((IntKind.u64.wrap kd).tmod 9 == 3) = false := by rw [h]; rfl
  have t4 : ((IntKind.u64.wrap kd).tmod 9 == 4) = true := by rw [h]; rfl
  clear h1 h2 hPH hQH hC h
  go_enter Try.func23, Try.ntmps23
  go_wp2_with fail
  refine H1.out.mono ?_
  rintro e w1 ⟨A1, c1, rfl, hC1, hP⟩
  obtain ⟨k0, k1, k2, k3, k4, k5⟩ := (HP.out _ hP).cells
  have HPW := Lib.hid hP
  clear hP
  have HC1 := Lib.hid hC1
  clear hC1
  go_wp2_with fail
  refine (H2.out _ _ HPW.out HC1.out).mono ?_
  rintro e w2 ⟨A2, c2, rfl, hC1, hC2, hQ⟩
  have HQW := Lib.hid hQ
  clear hQ k0 k1 k2 k3 k4 k5
  have hs1 := Kd.C_string (P := Try.prog) (A := A1) (c := c1) Try.underlying36 Try.underlying5 Try.underlying9 hC1
  have hs2 := Kd.C_string (P := Try.prog) (A := A2) (c := c2) Try.underlying36 Try.underlying5 Try.underlying9 hC2
  have hsb : ((strOfNums xs).toList == (strOfNums xs).toList) = true := by simp
  clear hC1 hC2
  go_wp2
  go_ret
  exact ⟨rfl, HQW.out⟩

set_option maxRecDepth 100000 in
set_option maxHeartbeats 4000000 in
theorem one_find_hit (w : World) (X R : Value) (kd ad n m v : Int) (A : Option Addr) (c : Nat) (l : List Int) (hC : Kd.C (Kd.int .u8) w A l.length l) (h : (IntKind.u64.wrap kd).tmod 9 = 8) (i k : Int) (hi : 0 ≤ i) (P Q : World → Prop) (hPH : ∀ W, P W → Held w.heap.size kd ad n m v A l c W) (hQH : ∀ W, Q W → Held w.heap.size kd ad n m v A l c W)
    (h1 : Calls Try.prog 28 #[X, .int .u64 ad] (w.alloc (.cells #[.int .i64 kd, .int .u64 ad, .int .i64 n, .int .i64 m, .int .u64 v, .slice A l.length c] 54)) fun e W => e = .returned (.tuple #[.int .i64 i, .int .i64 k, .bool true]) ∧ P W)
    (h2 : ∀ W, P W → Calls Try.prog 55 #[R, .int .u64 ad] W fun e W => e = .returned (.tuple #[.int .i64 i, .int .i64 k]) ∧ Q W) :
    Calls Try.prog 23 #[X, R, .agg #[.int .i64 kd, .int .u64 ad, .int .i64 n, .int .i64 m, .int .u64 v, .slice A l.length c]] w fun e w' => e = .returned (.bool true) ∧ Q w' := by
  have H1 := Lib.hid h1; have H2 := Lib.hid h2; have HP := Lib.hid hPH; have HQ := Lib.hid hQH; have HC := Lib.hid hC
  have t0 : ((IntKind.u64.wrap kd).tmod 9 == 0) = false := by rw [h]; rfl
  have t1 : ((IntKind.u64.wrap kd).tmod 9 == 1) = false := by rw [h]; rfl
  have t2 : ((IntKind.u64.wrap kd).tmod 9 == 2) = false := by rw [h]; rfl
  have t3 : ((IntKind.u64.wrap kd).tmod 9 == 3) = false := by rw [h]; rfl
  have t4 : ((IntKind.u64.wrap kd).tmod 9 == 4) = false := by rw [h]; rfl
  have t5 : ((IntKind.u64.wrap kd).tmod 9 == 5) = false := by rw [h]; rfl
  have t6 : ((IntKind.u64.wrap kd).tmod 9 == 6) = false := by rw [h]; rfl
  have t7 : ((IntKind.u64.wrap kd).tmod 9 == 7) = false := by rw [h]; rfl
  clear h1 h2 hPH hQH hC h
  go_enter Try.func23, Try.ntmps23
  go_wp2_with fail
  refine H1.out.mono ?_
  rintro e w1 ⟨rfl, hP⟩
  obtain ⟨k0, k1, k2, k3, k4, k5⟩ := (HP.out _ hP).cells
  have HPW := Lib.hid hP
  clear hP
  go_wp2_with fail
  refine (H2.out _ HPW.out).mono ?_
  rintro e w2 ⟨rfl, hQ⟩
  have HQW := Lib.hid hQ
  clear hQ k0 k1 k2 k3 k4 k5
  go_wp2
  go_ret
  exact ⟨rfl, HQW.out⟩

set_option maxRecDepth 100000 in
set_option maxHeartbeats 4000000 in
theorem one_find_miss (w : World) (X R : Value) (kd ad n m v : Int) (A : Option Addr) (c : Nat) (l : List Int) (hC : Kd.C (Kd.int .u8) w A l.length l) (h : (IntKind.u64.wrap kd).tmod 9 = 8)  (P Q : World → Prop) (hPH : ∀ W, P W → Held w.heap.size kd ad n m v A l c W) (hQH : ∀ W, Q W → Held w.heap.size kd ad n m v A l c W)
    (h1 : Calls Try.prog 28 #[X, .int .u64 ad] (w.alloc (.cells #[.int .i64 kd, .int .u64 ad, .int .i64 n, .int .i64 m, .int .u64 v, .slice A l.length c] 54)) fun e W => e = .returned (.tuple #[.int .i64 0, .int .i64 0, .bool false]) ∧ P W)
    (h2 : ∀ W, P W → Calls Try.prog 55 #[R, .int .u64 ad] W fun e W => e = .returned (.tuple #[.int .i64 (-1), .int .i64 0]) ∧ Q W) :
    Calls Try.prog 23 #[X, R, .agg #[.int .i64 kd, .int .u64 ad, .int .i64 n, .int .i64 m, .int .u64 v, .slice A l.length c]] w fun e w' => e = .returned (.bool true) ∧ Q w' := by
  have H1 := Lib.hid h1; have H2 := Lib.hid h2; have HP := Lib.hid hPH; have HQ := Lib.hid hQH; have HC := Lib.hid hC
  have t0 : ((IntKind.u64.wrap kd).tmod 9 == 0) = false := by rw [h]; rfl
  have t1 : ((IntKind.u64.wrap kd).tmod 9 == 1) = false := by rw [h]; rfl
  have t2 : ((IntKind.u64.wrap kd).tmod 9 == 2) = false := by rw [h]; rfl
  have t3 : ((IntKind.u64.wrap kd).tmod 9 == 3) = false := by rw [h]; rfl
  have t4 : ((IntKind.u64.wrap kd).tmod 9 == 4) = false := by rw [h]; rfl
  have t5 : ((IntKind.u64.wrap kd).tmod 9 == 5) = false := by rw [h]; rfl
  have t6 : ((IntKind.u64.wrap kd).tmod 9 == 6) = false := by rw [h]; rfl
  have t7 : ((IntKind.u64.wrap kd).tmod 9 == 7) = false := by rw [h]; rfl
  clear h1 h2 hPH hQH hC h
  go_enter Try.func23, Try.ntmps23
  go_wp2_with fail
  refine H1.out.mono ?_
  rintro e w1 ⟨rfl, hP⟩
  obtain ⟨k0, k1, k2, k3, k4, k5⟩ := (HP.out _ hP).cells
  have HPW := Lib.hid hP
  clear hP
  go_wp2_with fail
  refine (H2.out _ HPW.out).mono ?_
  rintro e w2 ⟨rfl, hQ⟩
  have HQW := Lib.hid hQ
  clear hQ k0 k1 k2 k3 k4 k5
  go_wp2
  go_ret
  exact ⟨rfl, HQW.out⟩

set_option maxRecDepth 100000 in
set_option maxHeartbeats 4000000 in
theorem one_add_low (w : World) (X R : Value) (kd ad n m v : Int) (A : Option Addr) (c : Nat) (l : List Int) (hC : Kd.C (Kd.int .u8) w A l.length l) (h : (IntKind.u64.wrap kd).tmod 9 = 0) (hn : ¬ n > 4096) (x er : Int) (P Q : World → Prop) (hPH : ∀ W, P W → Held w.heap.size kd ad n m v A l c W) (hQH : ∀ W, Q W → Held w.heap.size kd ad n m v A l c W)
    (h1 : Calls Try.prog 14 #[X, .int .u64 ad, .int .i64 n, .int .i64 m] (w.alloc (.cells #[.int .i64 kd, .int .u64 ad, .int .i64 n, .int .i64 m, .int .u64 v, .slice A l.length c] 54)) fun e W => e = .returned (.tuple #[.int .i64 x, .int .i64 er]) ∧ P W)
    (h2 : ∀ W, P W → Calls Try.prog 36 #[R, .int .u64 ad, .int .i64 n, .int .i64 m] W fun e W => e = .returned (.tuple #[.int .i64 x, .int .i64 er]) ∧ Q W) :
    Calls Try.prog 23 #[X, R, .agg #[.int .i64 kd, .int .u64 ad, .int .i64 n, .int .i64 m, .int .u64 v, .slice A l.length c]] w fun e w' => e = .returned (.bool true) ∧ Q w' := by
  have H1 := Lib.hid h1; have H2 := Lib.hid h2; have HP := Lib.hid hPH; have HQ := Lib.hid hQH; have HC := Lib.hid hC
  have t0 : ((IntKind.u64.wrap kd).tmod 9 == 0) = true := by rw [h]; rfl
  clear h1 h2 hPH hQH hC h
  go_enter Try.func23, Try.ntmps23
  go_wp2_with fail
  refine H1.out.mono ?_
  rintro e w1 ⟨rfl, hP⟩
  obtain ⟨k0, k1, k2, k3, k4, k5⟩ := (HP.out _ hP).cells
  have HPW := Lib.hid hP
  clear hP
  go_wp2_with fail
  refine (H2.out _ HPW.out).mono ?_
  rintro e w2 ⟨rfl, hQ⟩
  have HQW := Lib.hid hQ
  clear hQ k0 k1 k2 k3 k4 k5
  go_wp2
  go_ret
  exact ⟨rfl, HQW.out⟩

set_option maxRecDepth 100000 in
set_option maxHeartbeats 4000000 in
theorem one_add_high (w : World) (X R : Value) (kd ad n m v : Int) (A : Option Addr) (c : Nat) (l : List Int) (hC : Kd.C (Kd.int .u8) w A l.length l) (h : (IntKind.u64.wrap kd).tmod 9 = 0) (hn : n > 4096) (x er : Int) (P Q : World → Prop) (hPH : ∀ W, P W → Held w.heap.size kd ad (n % 4096 + 65000) m v A l c W) (hQH : ∀ W, Q W → Held w.heap.size kd ad (n % 4096 + 65000) m v A l c W)
    (h1 : Calls Try.prog 14 #[X, .int .u64 ad, .int .i64 (n % 4096 + 65000), .int .i64 m] (w.alloc (.cells #[.int .i64 kd, .int .u64 ad, .int .i64 (n % 4096 + 65000), .int .i64 m, .int .u64 v, .slice A l.length c] 54)) fun e W => e = .returned (.tuple #[.int .i64 x, .int .i64 er]) ∧ P W)
    (h2 : ∀ W, P W → Calls Try.prog 36 #[R, .int .u64 ad, .int .i64 (n % 4096 + 65000), .int .i64 m] W fun e W => e = .returned (.tuple #[.int .i64 x, .int .i64 er]) ∧ Q W) :
    Calls Try.prog 23 #[X, R, .agg #[.int .i64 kd, .int .u64 ad, .int .i64 n, .int .i64 m, .int .u64 v, .slice A l.length c]] w fun e w' => e = .returned (.bool true) ∧ Q w' := by
  have H1 := Lib.hid h1; have H2 := Lib.hid h2; have HP := Lib.hid hPH; have HQ := Lib.hid hQH; have HC := Lib.hid hC
  have t0 : ((IntKind.u64.wrap kd).tmod 9 == 0) = true := by rw [h]; rfl
  clear h1 h2 hPH hQH hC h
  go_enter Try.func23, Try.ntmps23
  go_wp2_with fail
  refine H1.out.mono ?_
  rintro e w1 ⟨rfl, hP⟩
  obtain ⟨k0, k1, k2, k3, k4, k5⟩ := (HP.out _ hP).cells
  have HPW := Lib.hid hP
  clear hP
  go_wp2_with fail
  refine (H2.out _ HPW.out).mono ?_
  rintro e w2 ⟨rfl, hQ⟩
  have HQW := Lib.hid hQ
  clear hQ k0 k1 k2 k3 k4 k5
  go_wp2
  go_ret
  exact ⟨rfl, HQW.out⟩

set_option maxRecDepth 100000 in
set_option maxHeartbeats 4000000 in
theorem one_kill (w : World) (X R : Value) (kd ad n m v : Int) (A : Option Addr) (c : Nat) (l : List Int) (hC : Kd.C (Kd.int .u8) w A l.length l) (h : (IntKind.u64.wrap kd).tmod 9 = 1) (er : Int) (P Q : World → Prop) (hPH : ∀ W, P W → Held w.heap.size kd ad n m v A l c W) (hQH : ∀ W, Q W → Held w.heap.size kd ad n m v A l c W)
    (h1 : ∀ W, (W = w.alloc (.cells #[.int .i64 kd, .int .u64 ad, .int .i64 n, .int .i64 m, .int .u64 v, .slice A l.length c] 54) ∨ W = (w.alloc (.cells #[.int .i64 kd, .int .u64 ad, .int .i64 n, .int .i64 m, .int .u64 v, .slice A l.length c] 54)).drew) → Calls Try.prog 21 #[X, .int .i64 n] W fun e W => e = .returned (.int .i64 er) ∧ P W)
    (h2 : ∀ W, P W → Calls Try.prog 50 #[R, .int .i64 n] W fun e W => e = .returned (.int .i64 er) ∧ Q W)
    (h3 : ∀ W, Q W → Calls Try.prog 22 #[X, .int .i64 n] W fun e W' => e = .returned (.bool false) ∧ W = W') :
    Calls Try.prog 23 #[X, R, .agg #[.int .i64 kd, .int .u64 ad, .int .i64 n, .int .i64 m, .int .u64 v, .slice A l.length c]] w fun e w' => e = .returned (.bool true) ∧ Q w' := by
  have H1 := Lib.hid h1; have H2 := Lib.hid h2; have HP := Lib.hid hPH; have HQ := Lib.hid hQH; have HC := Lib.hid hC
  have H3 := Lib.hid h3
  have t0 : ((IntKind.u64.wrap kd).tmod 9 == 0) = false := by rw [h]; rfl
  have t1 : ((IntKind.u64.wrap kd).tmod 9 == 1) = true := by rw [h]; rfl
  have hbx := (Held.cells (w := w.alloc (.cells #[.int .i64 kd, .int .u64 ad, .int .i64 n, .int .i64 m, .int .u64 v, .slice A l.length c] 54)) ⟨heap_alloc_new w _, Kd.C_alloc hC _⟩)
  have hcv := Kd.C_string (P := Try.prog) (A := A) (c := c) Try.underlying36 Try.underlying5 Try.underlying9 (Kd.C_alloc hC (.cells #[.int .i64 kd, .int .u64 ad, .int .i64 n, .int .i64 m, .int .u64 v, .slice A l.length c] 54))
  have HBX := Lib.hid (And.intro hbx hcv)
  clear h1 h2 hPH hQH hC h hbx hcv h3
  go_enter Try.func23, Try.ntmps23
  go_wp2_with fail
  go_region_held3 (fun w' => w'.cell? ⟨w.heap.size, 2, none⟩ = some (.int .i64 n)) (first | exact HBX.out.1.2.2.1 | exact (HP.out _ HPW.out).cells.2.2.1 | exact (HQ.out _ HQW.out).cells.2.2.1) (first
    | (go_at_call 21
       refine (H1.out _ ?_).mono ?_
       first | exact .inl rfl | exact .inr rfl
       rintro e w1 ⟨rfl, hP⟩
       have HPW := Lib.hid hP
       clear hP)
    | (go_at_call 50
       refine (H2.out _ ?_).mono ?_
       exact HPW.out
       rintro e w2 ⟨rfl, hQ⟩
       have HQW := Lib.hid hQ
       clear hQ)
    | (go_at_call 22
       refine (H3.out _ ?_).mono ?_
       exact HQW.out
       rintro e w3 ⟨rfl, rfl⟩)
    | fail)
  all_goals
    rename Hid (Q _) => HQW
    go_wp2
    go_ret
    exact ⟨rfl, HQW.out⟩

set_option maxRecDepth 100000 in
set_option maxHeartbeats 4000000 in
theorem one_store (w : World) (X R : Value) (kd ad n m v : Int) (A : Option Addr) (c : Nat) (l : List Int) (hC : Kd.C (Kd.int .u8) w A l.length l) (h : (IntKind.u64.wrap kd).tmod 9 = 3) (er : Int) (P Q : World → Prop) (hPH : ∀ W, P W → Held w.heap.size kd ad n m v A l c W) (hQH : ∀ W, Q W → Held w.heap.size kd ad n m v A l c W)
    (h1 : ∀ W, (W = w.alloc (.cells #[.int .i64 kd, .int .u64 ad, .int .i64 n, .int .i64 m, .int .u64 v, .slice A l.length c] 54) ∨ W = (w.alloc (.cells #[.int .i64 kd, .int .u64 ad, .int .i64 n, .int .i64 m, .int .u64 v, .slice A l.length c] 54)).drew) → Calls Try.prog 15 #[X, .int .u64 ad, .int .i64 n, .int .u64 v] W fun e W => e = .returned (.int .i64 er) ∧ P W)
    (h2 : ∀ W, P W → Calls Try.prog 42 #[R, .int .u64 ad, .int .i64 n, .int .u64 v] W fun e W => e = .returned (.int .i64 er) ∧ Q W) :
    Calls Try.prog 23 #[X, R, .agg #[.int .i64 kd, .int .u64 ad, .int .i64 n, .int .i64 m, .int .u64 v, .slice A l.length c]] w fun e w' => e = .returned (.bool true) ∧ Q w' := by
  have H1 := Lib.hid h1; have H2 := Lib.hid h2; have HP := Lib.hid hPH; have HQ := Lib.hid hQH; have HC := Lib.hid hC
  have t0 : ((IntKind.u64.wrap kd).tmod 9 == 0) = false := by rw [h]; rfl
  have t1 : ((IntKind.u64.wrap kd).tmod 9 == 1) = false := by rw [h]; rfl
  have t2 : ((IntKind.u64.wrap kd).tmod 9 == 2) = false := by rw [h]; rfl
  have t3 : ((IntKind.u64.wrap kd).tmod 9 == 3) = true := by rw [h]; rfl
  have hbx := (Held.cells (w := w.alloc (.cells #[.int .i64 kd, .int .u64 ad, .int .i64 n, .int .i64 m, .int .u64 v, .slice A l.length c] 54)) ⟨heap_alloc_new w _, Kd.C_alloc hC _⟩)
  have hcv := Kd.C_string (P := Try.prog) (A := A) (c := c) Try.underlying36 Try.underlying5 Try.underlying9 (Kd.C_alloc hC (.cells #[.int .i64 kd, .int .u64 ad, .int .i64 n, .int .i64 m, .int .u64 v, .slice A l.length c] 54))
  have HBX := Lib.hid (And.intro hbx hcv)
  clear h1 h2 hPH hQH hC h hbx hcv
  go_enter Try.func23, Try.ntmps23
  go_wp2_with fail
  go_region_held3 (fun w' => w'.cell? ⟨w.heap.size, 1, none⟩ = some (.int .u64 ad) ∧ w'.cell? ⟨w.heap.size, 2, none⟩ = some (.int .i64 n) ∧ w'.cell? ⟨w.heap.size, 4, none⟩ = some (.int .u64 v)) (first | exact ⟨(HBX.out.1).2.1, (HBX.out.1).2.2.1, (HBX.out.1).2.2.2.2.1⟩ | exact ⟨((HP.out _ HPW.out).cells).2.1, ((HP.out _ HPW.out).cells).2.2.1, ((HP.out _ HPW.out).cells).2.2.2.2.1⟩ | exact ⟨((HQ.out _ HQW.out).cells).2.1, ((HQ.out _ HQW.out).cells).2.2.1, ((HQ.out _ HQW.out).cells).2.2.2.2.1⟩) (first
    | (go_at_call 15
       refine (H1.out _ ?_).mono ?_
       first | exact .inl rfl | exact .inr rfl
       rintro e w1 ⟨rfl, hP⟩
       have HPW := Lib.hid hP
       clear hP)
    | (go_at_call 42
       refine (H2.out _ ?_).mono ?_
       exact HPW.out
       rintro e w2 ⟨rfl, hQ⟩
       have HQW := Lib.hid hQ
       clear hQ)
    | fail)
  all_goals
    rename Hid (Q _) => HQW
    go_wp2
    go_ret
    exact ⟨rfl, HQW.out⟩

set_option maxRecDepth 100000 in
set_option maxHeartbeats 4000000 in
theorem one_poke (w : World) (X R : Value) (kd ad n m v : Int) (A : Option Addr) (c : Nat) (l : List Int) (hC : Kd.C (Kd.int .u8) w A l.length l) (h : (IntKind.u64.wrap kd).tmod 9 = 6) (er : Int) (P Q : World → Prop) (hPH : ∀ W, P W → Held w.heap.size kd ad n m v A l c W) (hQH : ∀ W, Q W → Held w.heap.size kd ad n m v A l c W)
    (h1 : ∀ W, (W = w.alloc (.cells #[.int .i64 kd, .int .u64 ad, .int .i64 n, .int .i64 m, .int .u64 v, .slice A l.length c] 54) ∨ W = (w.alloc (.cells #[.int .i64 kd, .int .u64 ad, .int .i64 n, .int .i64 m, .int .u64 v, .slice A l.length c] 54)).drew) → Calls Try.prog 29 #[X, .int .i64 n, .int .i64 m, .slice A l.length c] W fun e W => e = .returned (.int .i64 er) ∧ P W)
    (h2 : ∀ W, P W → Calls Try.prog 54 #[R, .int .i64 n, .int .i64 m, .slice A l.length c] W fun e W => e = .returned (.int .i64 er) ∧ Q W) :
    Calls Try.prog 23 #[X, R, .agg #[.int .i64 kd, .int .u64 ad, .int .i64 n, .int .i64 m, .int .u64 v, .slice A l.length c]] w fun e w' => e = .returned (.bool true) ∧ Q w' := by
  have H1 := Lib.hid h1; have H2 := Lib.hid h2; have HP := Lib.hid hPH; have HQ := Lib.hid hQH; have HC := Lib.hid hC
  have t0 : ((IntKind.u64.wrap kd).tmod 9 == 0) = false := by rw [h]; rfl
  have t1 : ((IntKind.u64.wrap kd).tmod 9 == 1) = false := by rw [h]; rfl
  have t2 : ((IntKind.u64.wrap kd).tmod 9 == 2) = false := by rw [h]; rfl
  have t3 : ((IntKind.u64.wrap kd).tmod 9 == 3) = false := by rw [h]; rfl
  have t4 : ((IntKind.u64.wrap kd).tmod 9 == 4) = false := by rw [h]; rfl
  have t5 : ((IntKind.u64.wrap kd).tmod 9 == 5) = false := by rw [h]; rfl
  have t6 : ((IntKind.u64.wrap kd).tmod 9 == 6) = true := by rw [h]; rfl
  have hbx := (Held.cells (w := w.alloc (.cells #[.int .i64 kd, .int .u64 ad, .int .i64 n, .int .i64 m, .int .u64 v, .slice A l.length c] 54)) ⟨heap_alloc_new w _, Kd.C_alloc hC _⟩)
  have hcv := Kd.C_string (P := Try.prog) (A := A) (c := c) Try.underlying36 Try.underlying5 Try.underlying9 (Kd.C_alloc hC (.cells #[.int .i64 kd, .int .u64 ad, .int .i64 n, .int .i64 m, .int .u64 v, .slice A l.length c] 54))
  have HBX := Lib.hid (And.intro hbx hcv)
  clear h1 h2 hPH hQH hC h hbx hcv
  go_enter Try.func23, Try.ntmps23
  go_wp2_with fail
  go_region_held3 (fun w' => w'.cell? ⟨w.heap.size, 2, none⟩ = some (.int .i64 n) ∧ w'.cell? ⟨w.heap.size, 3, none⟩ = some (.int .i64 m) ∧ w'.cell? ⟨w.heap.size, 5, none⟩ = some (.slice A l.length c)) (first | exact ⟨(HBX.out.1).2.2.1, (HBX.out.1).2.2.2.1, (HBX.out.1).2.2.2.2.2⟩ | exact ⟨((HP.out _ HPW.out).cells).2.2.1, ((HP.out _ HPW.out).cells).2.2.2.1, ((HP.out _ HPW.out).cells).2.2.2.2.2⟩ | exact ⟨((HQ.out _ HQW.out).cells).2.2.1, ((HQ.out _ HQW.out).cells).2.2.2.1, ((HQ.out _ HQW.out).cells).2.2.2.2.2⟩) (first
    | (go_at_call 29
       refine (H1.out _ ?_).mono ?_
       first | exact .inl rfl | exact .inr rfl
       rintro e w1 ⟨rfl, hP⟩
       have HPW := Lib.hid hP
       clear hP)
    | (go_at_call 54
       refine (H2.out _ ?_).mono ?_
       exact HPW.out
       rintro e w2 ⟨rfl, hQ⟩
       have HQW := Lib.hid hQ
       clear hQ)
    | fail)
  all_goals
    rename Hid (Q _) => HQW
    go_wp2
    go_ret
    exact ⟨rfl, HQW.out⟩

set_option maxRecDepth 100000 in
set_option maxHeartbeats 4000000 in
theorem one_write (w : World) (X R : Value) (kd ad n m v : Int) (A : Option Addr) (c : Nat) (l : List Int) (hC : Kd.C (Kd.int .u8) w A l.length l) (h : (IntKind.u64.wrap kd).tmod 9 = 5) (er : Int) (P Q : World → Prop) (hPH : ∀ W, P W → Held w.heap.size kd ad n m v A l c W) (hQH : ∀ W, Q W → Held w.heap.size kd ad n m v A l c W)
    (h1 : ∀ W, (W = w.alloc (.cells #[.int .i64 kd, .int .u64 ad, .int .i64 n, .int .i64 m, .int .u64 v, .slice A l.length c] 54) ∨ W = (w.alloc (.cells #[.int .i64 kd, .int .u64 ad, .int .i64 n, .int .i64 m, .int .u64 v, .slice A l.length c] 54)).drew) → Calls Try.prog 20 #[X, .int .u64 ad, .slice A l.length c] W fun e W => e = .returned (.int .i64 er) ∧ P W)
    (h2 : ∀ W, P W → Calls Try.prog 53 #[R, .int .u64 ad, .slice A l.length c] W fun e W => e = .returned (.int .i64 er) ∧ Q W) :
    Calls Try.prog 23 #[X, R, .agg #[.int .i64 kd, .int .u64 ad, .int .i64 n, .int .i64 m, .int .u64 v, .slice A l.length c]] w fun e w' => e = .returned (.bool true) ∧ Q w' := by
  have H1 := Lib.hid h1; have H2 := Lib.hid h2; have HP := Lib.hid hPH; have HQ := Lib.hid hQH; have HC := Lib.hid hC
  have t0 : ((IntKind.u64.wrap kd).tmod 9 == 0) = false := by rw [h]; rfl
  have t1 : ((IntKind.u64.wrap kd).tmod 9 == 1) = false := by rw [h]; rfl
  have t2 : ((IntKind.u64.wrap kd).tmod 9 == 2) = false := by rw [h]; rfl
  have t3 : ((IntKind.u64.wrap kd).tmod 9 == 3) = false := by rw [h]; rfl
  have t4 : ((IntKind.u64.wrap kd).tmod 9 == 4) = false := by rw [h]; rfl
  have t5 : ((IntKind.u64.wrap kd).tmod 9 == 5) = true := by rw [h]; rfl
  have hbx := (Held.cells (w := w.alloc (.cells #[.int .i64 kd, .int .u64 ad, .int .i64 n, .int .i64 m, .int .u64 v, .slice A l.length c] 54)) ⟨heap_alloc_new w _, Kd.C_alloc hC _⟩)
  have hcv := Kd.C_string (P := Try.prog) (A := A) (c := c) Try.underlying36 Try.underlying5 Try.underlying9 (Kd.C_alloc hC (.cells #[.int .i64 kd, .int .u64 ad, .int .i64 n, .int .i64 m, .int .u64 v, .slice A l.length c] 54))
  have HB0 : Hid (Held w.heap.size kd ad n m v A l c (w.alloc (.cells #[.int .i64 kd, .int .u64 ad, .int .i64 n, .int .i64 m, .int .u64 v, .slice A l.length c] 54))) := Lib.hid ⟨heap_alloc_new w _, Kd.C_alloc hC _⟩
  have HKW : Hid (∀ w', Held w.heap.size kd ad n m v A l c w' → w'.cell? ⟨w.heap.size, 1, none⟩ = some (.int .u64 ad) ∧ w'.cell? ⟨w.heap.size, 5, none⟩ = some (.slice A l.length c) ∧ Sem.run Try.prog (convert 36 9 (.slice A l.length c)) w' = .ok (.string (strOfNums l)) w') := Lib.hid fun w' hh => ⟨hh.cells.2.1, hh.cells.2.2.2.2.2, Kd.C_string (P := Try.prog) (A := A) (c := c) Try.underlying36 Try.underlying5 Try.underlying9 hh.2⟩
  obtain ⟨k0, k1, k2, k3, k4, k5⟩ := hbx
  have hsb : ((strOfNums l).toList == (strOfNums l).toList) = true := by simp
  clear h1 h2 hPH hQH hC h
  go_enter Try.func23, Try.ntmps23
  go_wp2_with fail
  go_region_held3 (fun w' => w'.cell? ⟨w.heap.size, 1, none⟩ = some (.int .u64 ad) ∧ w'.cell? ⟨w.heap.size, 5, none⟩ = some (.slice A l.length c) ∧ Sem.run Try.prog (convert 36 9 (.slice A l.length c)) w' = .ok (.string (strOfNums l)) w') (first | exact HKW.out _ HB0.out | exact HKW.out _ HB0.out.drew | exact HKW.out _ (HP.out _ HPW.out) | exact HKW.out _ (HP.out _ HPW.out).drew | exact HKW.out _ (HQ.out _ HQW.out) | exact HKW.out _ (HQ.out _ HQW.out).drew) (first
    | (go_at_call 20
       refine (H1.out _ ?_).mono ?_
       first | exact .inl rfl | exact .inr rfl
       rintro e w1 ⟨rfl, hP⟩
       have HPW := Lib.hid hP
       clear hP)
    | (go_at_call 53
       refine (H2.out _ ?_).mono ?_
       exact HPW.out
       rintro e w2 ⟨rfl, hQ⟩
       have HQW := Lib.hid hQ
       clear hQ)
    | fail)
  all_goals
    rename Hid (Q _) => HQW
    go_wp2
    go_ret
    exact ⟨rfl, HQW.out⟩

set_option maxRecDepth 100000 in
set_option maxHeartbeats 4000000 in
theorem one_bytes_no (w : World) (X R : Value) (kd ad n m v : Int) (A : Option Addr) (c : Nat) (l : List Int) (hC : Kd.C (Kd.int .u8) w A l.length l) (h : (IntKind.u64.wrap kd).tmod 9 = 7) (P : World → Prop) (hPH : ∀ W, P W → Held w.heap.size kd ad n m v A l c W)
    (h1 : Calls Try.prog 18 #[X, .int .i64 n] (w.alloc (.cells #[.int .i64 kd, .int .u64 ad, .int .i64 n, .int .i64 m, .int .u64 v, .slice A l.length c] 54)) fun e W => ∃ A1 c1, e = .returned (.tuple #[.slice A1 0 c1, .int .i64 14]) ∧ P W)
    (h2 : ∀ W, P W → Calls Try.prog 27 #[R, .int .i64 n] W fun e W' => e = .returned (.bool false) ∧ W = W')
    (h3 : ∀ W, P W → Calls Try.prog 22 #[X, .int .i64 n] W fun e W' => e = .returned (.bool false) ∧ W = W') :
    Calls Try.prog 23 #[X, R, .agg #[.int .i64 kd, .int .u64 ad, .int .i64 n, .int .i64 m, .int .u64 v, .slice A l.length c]] w fun e w' => e = .returned (.bool true) ∧ P w' := by
  have H1 := Lib.hid h1; have H2 := Lib.hid h2; have H3 := Lib.hid h3; have HP := Lib.hid hPH; have HC := Lib.hid hC
  have t0 : ((IntKind.u64.wrap kd).tmod 9 == 0) = false := by rw [h]; rfl
  have t1 : ((IntKind.u64.wrap kd).tmod 9 == 1) = false := by rw [h]; rfl
  have t2 : ((IntKind.u64.wrap kd).tmod 9 == 2) = false := by rw [h]; rfl
  have t3 : ((IntKind.u64.wrap kd).tmod 9 == 3) = false := by rw [h]; rfl
  have t4 : ((IntKind.u64.wrap kd).tmod 9 == 4) = false := by rw [h]; rfl
  have t5 : ((IntKind.u64.wrap kd).tmod 9 == 5) = false := by rw [h]; rfl
  have t6 : ((IntKind.u64.wrap kd).tmod 9 == 6) = false := by rw [h]; rfl
  have t7 : ((IntKind.u64.wrap kd).tmod 9 == 7) = true := by rw [h]; rfl
  clear h1 h2 h3 hPH hC h
  go_enter Try.func23, Try.ntmps23
  go_wp2_with fail
  refine H1.out.mono ?_
  rintro e w1 ⟨A1, c1, rfl, hP⟩
  obtain ⟨k0, k1, k2, k3, k4, k5⟩ := (HP.out _ hP).cells
  have HPW := Lib.hid hP
  clear hP
  go_wp2_with fail
  refine (H2.out _ HPW.out).mono ?_
  rintro e w2 ⟨rfl, rfl⟩
  go_wp2_with fail
  refine (H3.out _ HPW.out).mono ?_
  rintro e w3 ⟨rfl, rfl⟩
  go_wp2
  go_ret
  exact ⟨rfl, HPW.out⟩

set_option maxRecDepth 100000 in
set_option maxHeartbeats 4000000 in
theorem one_bytes_yes (w : World) (X : Value) (gr k : Nat) (kd ad m v : Int) (A : Option Addr) (c : Nat) (l : List Int) (hC : Kd.C (Kd.int .u8) w A l.length l) (h : (IntKind.u64.wrap kd).tmod 9 = 7) (xs : List Int) (P : World → Prop) (hPH : ∀ W, P W → Held w.heap.size kd ad (k : Int) m v A l c W) (hPD : ∀ W, P W → ∃ (bl nn cap cb : Nat) (B : Option Addr), W.cell? ⟨gr, 0, none⟩ = some (.slice (some ⟨bl, 0, none⟩) nn cap) ∧ k < nn ∧ W.cell? ⟨bl, k * 5 + 3, none⟩ = some (.slice B xs.length cb) ∧ Kd.C (Kd.int .u8) W B xs.length xs) (hPd : ∀ W q, P W → P (W.drewN q))
    (h1 : Calls Try.prog 18 #[X, .int .i64 (k : Int)] (w.alloc (.cells #[.int .i64 kd, .int .u64 ad, .int .i64 (k : Int), .int .i64 m, .int .u64 v, .slice A l.length c] 54)) fun e W => ∃ A1 c1, e = .returned (.tuple #[.slice A1 xs.length c1, .int .i64 0]) ∧ Kd.C (Kd.int .u8) W A1 xs.length xs ∧ P W)
    (h2 : ∀ W, P W → Calls Try.prog 27 #[.pointer (some ⟨gr, 0, none⟩), .int .i64 (k : Int)] W fun e W' => e = .returned (.bool true) ∧ W = W')
    (h3 : ∀ W, P W → Calls Try.prog 22 #[X, .int .i64 (k : Int)] W fun e W' => e = .returned (.bool true) ∧ W = W') :
    Calls Try.prog 23 #[X, .pointer (some ⟨gr, 0, none⟩), .agg #[.int .i64 kd, .int .u64 ad, .int .i64 (k : Int), .int .i64 m, .int .u64 v, .slice A l.length c]] w fun e w' => e = .returned (.bool true) ∧ P w' := by
  have H1 := Lib.hid h1; have H2 := Lib.hid h2; have H3 := Lib.hid h3; have HP := Lib.hid hPH; have HC := Lib.hid hC
  have t0 : ((IntKind.u64.wrap kd).tmod 9 == 0) = false := by rw [h]; rfl
  have t1 : ((IntKind.u64.wrap kd).tmod 9 == 1) = false := by rw [h]; rfl
  have t2 : ((IntKind.u64.wrap kd).tmod 9 == 2) = false := by rw [h]; rfl
  have t3 : ((IntKind.u64.wrap kd).tmod 9 == 3) = false := by rw [h]; rfl
  have t4 : ((IntKind.u64.wrap kd).tmod 9 == 4) = false := by rw [h]; rfl
  have t5 : ((IntKind.u64.wrap kd).tmod 9 == 5) = false := by rw [h]; rfl
  have t6 : ((IntKind.u64.wrap kd).tmod 9 == 6) = false := by rw [h]; rfl
  have t7 : ((IntKind.u64.wrap kd).tmod 9 == 7) = true := by rw [h]; rfl
  clear h1 h2 h3 hPH hC h
  go_enter Try.func23, Try.ntmps23
  go_wp2_with fail
  refine H1.out.mono ?_
  rintro e w1 ⟨A1, c1, rfl, hC1, hP⟩
  obtain ⟨k0, k1, k2, k3, k4, k5⟩ := (HP.out _ hP).cells
  obtain ⟨bl, nn, cap, cb, B, d1, d2, d3, d4⟩ := hPD _ hP
  have hs1 := Kd.C_string (P := Try.prog) (A := A1) (c := c1) Try.underlying36 Try.underlying5 Try.underlying9 hC1
  have hs2 := Kd.C_string (P := Try.prog) (A := B) (c := cb) Try.underlying36 Try.underlying5 Try.underlying9 d4
  have hsb : ((strOfNums xs).toList == (strOfNums xs).toList) = true := by simp
  have d0 : (0 : Int) ≤ (k : Int) := by omega
  have d5 : (k : Int) < (nn : Int) := by omega
  have HPW := Lib.hid hP
  have HPd := Lib.hid hPd
  have HS1 := Lib.hid (And.intro k2 (And.intro d1 (And.intro d3 (And.intro hs1 hs2))))
  have HS2 : Hid (w1.drew.cell? ⟨w.heap.size, 2, none⟩ = some (.int .i64 (k : Int)) ∧ w1.drew.cell? ⟨gr, 0, none⟩ = some (.slice (some ⟨bl, 0, none⟩) nn cap) ∧ w1.drew.cell? ⟨bl, k * 5 + 3, none⟩ = some (.slice B xs.length cb) ∧ Sem.run Try.prog (convert 36 9 (.slice A1 xs.length c1)) w1.drew = .ok (.string (strOfNums xs)) w1.drew ∧ Sem.run Try.prog (convert 36 9 (.slice B xs.length cb)) w1.drew = .ok (.string (strOfNums xs)) w1.drew) := Lib.hid ⟨k2, d1, d3, Kd.C_string (P := Try.prog) (A := A1) (c := c1) Try.underlying36 Try.underlying5 Try.underlying9 (Kd.C_below hC1 (below_drew (Below.refl _ _))), Kd.C_string (P := Try.prog) (A := B) (c := cb) Try.underlying36 Try.underlying5 Try.underlying9 (Kd.C_below d4 (below_drew (Below.refl _ _)))⟩
  clear hP d4 hC1 hPD hPd
  go_wp2_with fail
  refine (H2.out _ HPW.out).mono ?_
  rintro e w2 ⟨rfl, rfl⟩
  go_wp2_with fail
  go_region_held3 (fun w' => w'.cell? ⟨w.heap.size, 2, none⟩ = some (.int .i64 (k : Int)) ∧ w'.cell? ⟨gr, 0, none⟩ = some (.slice (some ⟨bl, 0, none⟩) nn cap) ∧ w'.cell? ⟨bl, k * 5 + 3, none⟩ = some (.slice B xs.length cb) ∧ Sem.run Try.prog (convert 36 9 (.slice A1 xs.length c1)) w' = .ok (.string (strOfNums xs)) w' ∧ Sem.run Try.prog (convert 36 9 (.slice B xs.length cb)) w' = .ok (.string (strOfNums xs)) w') (first | exact HS1.out | exact HS2.out) (first
    | (go_at_call 22
       refine (H3.out _ ?_).mono ?_
       first | exact HPW.out | exact HPd.out _ 1 HPW.out
       rintro e w3 ⟨rfl, rfl⟩)
    | fail)
  all_goals
    go_wp2
    go_ret
    exact ⟨rfl, by first | exact HPW.out | exact HPd.out _ 1 HPW.out⟩

end Go.Proofs.Ytpjgaacdohiomaa.MemOne
