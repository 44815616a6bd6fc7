/- one call of both indexes (the program's and the document's): the walk of the law's own function 'one', whatever the two calls' contracts are. -/
import Derived.Test.YtfbajampfiodeaaSameKeys09
namespace Go.Proofs.Ytfbajampfiodeaa.One09
open Go.RowKit Go.Proofs.Ytfbajampfiodeaa.PArrayPlays Go.Proofs.YtfbajampfiodeaaW.PrintWords Go.Proofs.YtfbajampfiodeaaW.PrintLast Go.Proofs.YtfbajampfiodeaaW.PrintMore Go.Proofs.Ytfbajampfiodeaa.Rx
set_option linter.unusedVariables false
attribute [local go_sem] max2_int min2_int max_two min_two max_three min_three max_four min_four
/-- The op's own cells, and the key's. -/
def Held (bx : Nat) (kd : Int) (A : Option Addr) (l : List Int) (c : Nat) (f : Int) (w : World) : Prop :=
  w.heap[bx]? = some (.cells #[.int .i64 kd, .slice A l.length c, .int .u64 f] 79 (0, 0)) ∧ Kd.C (Kd.int .u8) w A l.length l
theorem Held.key {bx : Nat} {kd : Int} {A : Option Addr} {l : List Int} {c : Nat} {f : Int} {w : World} (h : Held bx kd A l c f w) : w.cell? ⟨bx, 1, none⟩ = some (.slice A l.length c) := (blk_cell h.1 1).trans rfl
theorem Held.flags {bx : Nat} {kd : Int} {A : Option Addr} {l : List Int} {c : Nat} {f : Int} {w : World} (h : Held bx kd A l c f w) : w.cell? ⟨bx, 2, none⟩ = some (.int .u64 f) := (blk_cell h.1 2).trans rfl
theorem one_find (w : World) (X R : Value) (kd : Int) (A : Option Addr) (c : Nat) (l : List Int) (f : Int) (hC : Kd.C (Kd.int .u8) w A l.length l) (h : (IntKind.u64.wrap kd).tmod 4 = 0)
    (s : Int) (is : Bool) (at_ : Int) (P Q : World → Prop) (hPH : ∀ W, P W → Held w.heap.size kd A l c f W) (hQH : ∀ W, Q W → Held w.heap.size kd A l c f W)
    (h1 : Calls Try.prog 52 #[X, .slice A l.length c] (w.alloc (.cells #[.int .i64 kd, .slice A l.length c, .int .u64 f] 79)) fun e W => e = .returned (.tuple #[.int .i64 s, .bool is]) ∧ P W)
    (h2 : ∀ W, P W → Calls Try.prog 58 #[R, .slice A l.length c] W fun e W => e = .returned (.int .i64 at_) ∧ Q W)
    (e1 : is = decide (0 ≤ at_)) (e2 : s = max at_ 0) :
    Calls Try.prog 53 #[X, R, .agg #[.int .i64 kd, .slice A l.length c, .int .u64 f]] w fun e w' => e = .returned (.bool true) ∧ Q w' := by
  have hs0 := Kd.C_string (P := Try.prog) (A := A) (c := c) Try.underlying32 Try.underlying5 Try.underlying9 (Kd.C_alloc hC (.cells #[.int .i64 kd, .slice A l.length c, .int .u64 f] 79))
  have H1 := Lib.hid h1; have H2 := Lib.hid h2; have HP := Lib.hid hPH; have HQ := Lib.hid hQH; have HC := Lib.hid hC
  subst e1
  subst e2
  have t0 : ((IntKind.u64.wrap kd).tmod 4 == 0) = true := by rw [h]; rfl
  clear h1 h2 hPH hQH hC h
  go_enter Try.func53, Try.ntmps53
  go_wp2_with fail
  refine H1.out.mono ?_
  rintro e w1 ⟨rfl, hP⟩
  have k1 := (HP.out _ hP).key
  have HPW := Lib.hid hP
  clear hP hs0
  go_wp2_with fail
  refine (H2.out _ HPW.out).mono ?_
  rintro e w2 ⟨rfl, hQ⟩
  have k2 := (HQ.out _ hQ).key
  have hs2 := Kd.C_string (P := Try.prog) (A := A) (c := c) Try.underlying32 Try.underlying5 Try.underlying9 (HQ.out _ hQ).2
  have HQW := Lib.hid hQ
  have hsb : ((strOfNums l).toList == (strOfNums l).toList) = true := by simp
  clear hQ k1
  by_cases hat : 0 ≤ at_
  · have a1 : decide (0 ≤ at_) = true := decide_eq_true hat
    have a2 : max at_ 0 = at_ := by omega
    go_wp2
    go_ret
    exact ⟨rfl, HQW.out⟩
  · have a1 : decide (0 ≤ at_) = false := decide_eq_false hat
    have a2 : max at_ 0 = 0 := by omega
    go_wp2
    go_ret
    exact ⟨rfl, HQW.out⟩
theorem one_put (w : World) (X R : Value) (kd : Int) (A : Option Addr) (c : Nat) (l : List Int) (f : Int) (hC : Kd.C (Kd.int .u8) w A l.length l) (h : (IntKind.u64.wrap kd).tmod 4 = 1)
    (s : Int) (fr : Bool) (er : Int) (P Q : World → Prop) (hPH : ∀ W, P W → Held w.heap.size kd A l c f W) (hQH : ∀ W, Q W → Held w.heap.size kd A l c f W)
    (h1 : Calls Try.prog 49 #[X, .slice A l.length c, .int .u64 f] (w.alloc (.cells #[.int .i64 kd, .slice A l.length c, .int .u64 f] 79)) fun e W => e = .returned (.tuple #[.int .i64 s, .bool fr, .int .i64 er]) ∧ P W)
    (h2 : ∀ W, P W → Calls Try.prog 59 #[R, .slice A l.length c, .int .u64 f] W fun e W => e = .returned (.tuple #[.int .i64 s, .bool fr, .int .i64 er]) ∧ Q W) :
    Calls Try.prog 53 #[X, R, .agg #[.int .i64 kd, .slice A l.length c, .int .u64 f]] w fun e w' => e = .returned (.bool true) ∧ Q w' := by
  have hs0 := Kd.C_string (P := Try.prog) (A := A) (c := c) Try.underlying32 Try.underlying5 Try.underlying9 (Kd.C_alloc hC (.cells #[.int .i64 kd, .slice A l.length c, .int .u64 f] 79))
  have H1 := Lib.hid h1; have H2 := Lib.hid h2; have HP := Lib.hid hPH; have HQ := Lib.hid hQH; have HC := Lib.hid hC
  have t0 : ((IntKind.u64.wrap kd).tmod 4 == 0) = false := by rw [h]; rfl
  have t1 : ((IntKind.u64.wrap kd).tmod 4 == 1) = true := by rw [h]; rfl
  clear h1 h2 hPH hQH hC h
  go_enter Try.func53, Try.ntmps53
  go_wp2_with fail
  refine H1.out.mono ?_
  rintro e w1 ⟨rfl, hP⟩
  have k1 := (HP.out _ hP).key
  have k1f := (HP.out _ hP).flags
  have HPW := Lib.hid hP
  clear hP hs0
  go_wp2_with fail
  refine (H2.out _ HPW.out).mono ?_
  rintro e w2 ⟨rfl, hQ⟩
  have k2 := (HQ.out _ hQ).key
  have hs2 := Kd.C_string (P := Try.prog) (A := A) (c := c) Try.underlying32 Try.underlying5 Try.underlying9 (HQ.out _ hQ).2
  have HQW := Lib.hid hQ
  have hsb : ((strOfNums l).toList == (strOfNums l).toList) = true := by simp
  clear hQ k1 k1f
  go_wp2
  go_ret
  exact ⟨rfl, HQW.out⟩
theorem one_del (w : World) (X R : Value) (kd : Int) (A : Option Addr) (c : Nat) (l : List Int) (f : Int) (hC : Kd.C (Kd.int .u8) w A l.length l) (h : (IntKind.u64.wrap kd).tmod 4 = 2)
    (s : Int) (er : Int) (P Q : World → Prop) (hPH : ∀ W, P W → Held w.heap.size kd A l c f W) (hQH : ∀ W, Q W → Held w.heap.size kd A l c f W)
    (h1 : Calls Try.prog 55 #[X, .slice A l.length c] (w.alloc (.cells #[.int .i64 kd, .slice A l.length c, .int .u64 f] 79)) fun e W => e = .returned (.tuple #[.int .i64 s, .int .i64 er]) ∧ P W)
    (h2 : ∀ W, P W → Calls Try.prog 60 #[R, .slice A l.length c] W fun e W => e = .returned (.tuple #[.int .i64 s, .int .i64 er]) ∧ Q W) :
    Calls Try.prog 53 #[X, R, .agg #[.int .i64 kd, .slice A l.length c, .int .u64 f]] w fun e w' => e = .returned (.bool true) ∧ Q w' := by
  have hs0 := Kd.C_string (P := Try.prog) (A := A) (c := c) Try.underlying32 Try.underlying5 Try.underlying9 (Kd.C_alloc hC (.cells #[.int .i64 kd, .slice A l.length c, .int .u64 f] 79))
  have H1 := Lib.hid h1; have H2 := Lib.hid h2; have HP := Lib.hid hPH; have HQ := Lib.hid hQH; have HC := Lib.hid hC
  have t0 : ((IntKind.u64.wrap kd).tmod 4 == 0) = false := by rw [h]; rfl
  have t1 : ((IntKind.u64.wrap kd).tmod 4 == 1) = false := by rw [h]; rfl
  have t2 : ((IntKind.u64.wrap kd).tmod 4 == 2) = true := by rw [h]; rfl
  clear h1 h2 hPH hQH hC h
  go_enter Try.func53, Try.ntmps53
  go_wp2_with fail
  refine H1.out.mono ?_
  rintro e w1 ⟨rfl, hP⟩
  have k1 := (HP.out _ hP).key
  have k1f := (HP.out _ hP).flags
  have HPW := Lib.hid hP
  clear hP hs0
  go_wp2_with fail
  refine (H2.out _ HPW.out).mono ?_
  rintro e w2 ⟨rfl, hQ⟩
  have k2 := (HQ.out _ hQ).key
  have hs2 := Kd.C_string (P := Try.prog) (A := A) (c := c) Try.underlying32 Try.underlying5 Try.underlying9 (HQ.out _ hQ).2
  have HQW := Lib.hid hQ
  have hsb : ((strOfNums l).toList == (strOfNums l).toList) = true := by simp
  clear hQ k1 k1f
  go_wp2
  go_ret
  exact ⟨rfl, HQW.out⟩
theorem one_keys (w : World) (X R : Value) (kd : Int) (A : Option Addr) (c : Nat) (l : List Int) (f : Int) (hC : Kd.C (Kd.int .u8) w A l.length l) (h : (IntKind.u64.wrap kd).tmod 4 = 3)
    (rows : List (List Int)) (hb : SameKeys09.Bytes rows) (hn : rows.length ≤ 64) (P Q : World → Prop) (hQd : ∀ W n, Q W → Q (W.drewN n)) (hQH : ∀ W, Q W → Held w.heap.size kd A l c f W)
    (h1 : Calls Try.prog 50 #[X] (w.alloc (.cells #[.int .i64 kd, .slice A l.length c, .int .u64 f] 79)) fun e W => ∃ A1 c1, e = .returned (.slice A1 rows.length c1) ∧ Kd.C (Kd.slice 5 (Kd.int .u8)) W A1 rows.length rows ∧ P W)
    (h2 : ∀ W A1, P W → Kd.C (Kd.slice 5 (Kd.int .u8)) W A1 rows.length rows → Calls Try.prog 22 #[R] W fun e W => ∃ A2 c2, e = .returned (.slice A2 rows.length c2) ∧ Kd.C (Kd.slice 5 (Kd.int .u8)) W A1 rows.length rows ∧ Kd.C (Kd.slice 5 (Kd.int .u8)) W A2 rows.length rows ∧ Q W) :
    Calls Try.prog 53 #[X, R, .agg #[.int .i64 kd, .slice A l.length c, .int .u64 f]] w fun e w' => e = .returned (.bool true) ∧ Q w' := by
  have hs0 := Kd.C_string (P := Try.prog) (A := A) (c := c) Try.underlying32 Try.underlying5 Try.underlying9 (Kd.C_alloc hC (.cells #[.int .i64 kd, .slice A l.length c, .int .u64 f] 79))
  have H1 := Lib.hid h1; have H2 := Lib.hid h2; have HQ := Lib.hid hQH; have HQD := Lib.hid hQd; have HC := Lib.hid hC; have HBY := Lib.hid hb; have HN := Lib.hid hn
  have t0 : ((IntKind.u64.wrap kd).tmod 4 == 0) = false := by rw [h]; rfl
  have t1 : ((IntKind.u64.wrap kd).tmod 4 == 1) = false := by rw [h]; rfl
  have t2 : ((IntKind.u64.wrap kd).tmod 4 == 2) = false := by rw [h]; rfl
  clear h1 h2 hQH hC h hQd hb hn
  go_enter Try.func53, Try.ntmps53
  go_wp2_with fail
  refine H1.out.mono ?_
  rintro e w1 ⟨A1, c1, rfl, hC1, hP⟩
  have HC1 := Lib.hid hC1; have HPW := Lib.hid hP
  clear hC1 hP hs0
  go_wp2_with fail
  refine (H2.out _ _ HPW.out HC1.out).mono ?_
  rintro e w2 ⟨A2, c2, rfl, hC1', hC2, hQ⟩
  have HC1' := Lib.hid hC1'; have HC2 := Lib.hid hC2; have HQW := Lib.hid hQ
  clear hC1' hC2 hQ HC1 HPW
  go_wp2_with fail
  refine (SameKeys09.sameKeys_ w2 A1 A2 c1 c2 rows rows HC1'.out HC2.out HBY.out HBY.out (by have := HN.out; omega)).mono ?_
  rintro e w3 ⟨rfl, n, rfl⟩
  rw [decide_eq_true rfl]
  have HQ3 := Lib.hid (HQD.out _ n HQW.out)
  have k2 := (HQ.out _ HQ3.out).key
  have hs2 := Kd.C_string (P := Try.prog) (A := A) (c := c) Try.underlying32 Try.underlying5 Try.underlying9 (HQ.out _ HQ3.out).2
  have hsb : ((strOfNums l).toList == (strOfNums l).toList) = true := by simp
  go_wp2
  go_ret
  exact ⟨rfl, HQ3.out⟩
end Go.Proofs.Ytfbajampfiodeaa.One09
