/- mem: nil ones refuse all, two memories know nothing of one another: the law's function, walked by hand. -/
import Derived.Test.YtpjgaacdohiomaaMemF
namespace Go.Proofs.Ytpjgaacdohiomaa.MemNil
open Go.RowKit Go.Proofs.Ytpjgaacdohiomaa.PMemCopies Go.Proofs.YtpjgaacdohiomaaW.PrintWords Go.Proofs.YtpjgaacdohiomaaW.PrintLast Go.Proofs.YtpjgaacdohiomaaW.PrintMore Go.Proofs.Ytpjgaacdohiomaa.Mw Go.Proofs.Ytpjgaacdohiomaa.Mem1 Go.Proofs.Ytpjgaacdohiomaa.Mem3 Go.Proofs.Ytpjgaacdohiomaa.MemC Go.Proofs.Ytpjgaacdohiomaa.MemQ Go.Proofs.Ytpjgaacdohiomaa.MemF
set_option linter.unusedVariables false
set_option linter.unusedSimpArgs false
theorem nil_region (i : Int) (w : World) : Calls Try.prog 48 #[.pointer none, .int .i64 i] w fun e w' => e = .returned (.pointer none) ∧ w = w' := by
  go_enter Try.func48, Try.ntmps48
  go_wp2
  go_ret
  exact ⟨rfl, rfl⟩
theorem nil_Live (i : Int) (w : World) : Calls Try.prog 22 #[.pointer none, .int .i64 i] w fun e w' => e = .returned (.bool false) ∧ w = w' := by
  go_enter Try.func22, Try.ntmps22
  go_wp2_with fail
  refine (nil_region i w).mono ?_
  rintro e w1 ⟨rfl, rfl⟩
  go_wp2
  go_ret
  exact ⟨rfl, rfl⟩
set_option maxRecDepth 100000 in
set_option maxHeartbeats 4000000 in
theorem law_calls (kd ad n m v : Int) (bv : Value) (w : World) (hb : ∃ ao l c, bv = .slice ao l c) :
    Calls Try.prog 8 #[.agg #[.int .i64 kd, .int .u64 ad, .int .i64 n, .int .i64 m, .int .u64 v, bv]] w fun e w' => e = .returned (.bool true) ∧ Below w.heap.size w w' := by
  obtain ⟨ao, l, c, rfl⟩ := hb
  have h0 := heap_alloc_new w (.cells #[.int .i64 kd, .int .u64 ad, .int .i64 n, .int .i64 m, .int .u64 v, .slice ao l c] 54)
  go_enter Try.func8, Try.ntmps8
  go_wp2_with fail
  have HW := Lib.hid (below_alloc (Below.refl w.heap.size w) (.cells #[.int .i64 kd, .int .u64 ad, .int .i64 n, .int .i64 m, .int .u64 v, .slice ao l c] 54))
  have hsz : (w.alloc (.cells #[.int .i64 kd, .int .u64 ad, .int .i64 n, .int .i64 m, .int .u64 v, .slice ao l c] 54)).heap.size = w.heap.size + 1 := by simp
  generalize w.alloc (.cells #[.int .i64 kd, .int .u64 ad, .int .i64 n, .int .i64 m, .int .u64 v, .slice ao l c] 54) = w0 at *
  refine (first_calls w0).mono ?_
  rintro e w1 ⟨rfl, hB⟩
  have h1 := (hB.block _ (by omega)).trans h0
  have s1 : w.heap.size < w1.heap.size := blk_lt h1
  have c1 : w1.cell? ⟨w.heap.size, 1, none⟩ = some (.int .u64 ad) := (blk_cell h1 1).trans rfl
  have c2 : w1.cell? ⟨w.heap.size, 2, none⟩ = some (.int .i64 n) := (blk_cell h1 2).trans rfl
  have c3 : w1.cell? ⟨w.heap.size, 3, none⟩ = some (.int .i64 m) := (blk_cell h1 3).trans rfl
  have HB := Lib.hid (HW.out.trans (hB.mono HW.out.size))
  have H1 := Lib.hid h1
  clear hB h0 hsz h1
  go_wp2_with fail
  refine (nil_Add ad n m w1).mono ?_
  rintro e w2 ⟨rfl, rfl⟩
  go_wp2_with fail
  refine (nil_Load ad n w1).mono ?_
  rintro e w2 ⟨rfl, rfl⟩
  go_wp2_with fail
  refine (nil_Read ad n w1).mono ?_
  rintro e w2 ⟨rfl, rfl⟩
  go_wp2_with fail
  refine (nil_Bytes n w1).mono ?_
  rintro e w2 ⟨rfl, rfl⟩
  go_wp2_with fail
  refine (nil_Find ad w1).mono ?_
  rintro e w2 ⟨rfl, rfl⟩
  go_wp2_with fail
  clear c1 c2 c3
  refine (q_new w1).mono ?_
  rintro e w2 ⟨F, g, rfl, hX, hF, hB⟩
  have HX := Lib.hid hX; have HFX := Lib.hid hF; have HB1 := Lib.hid hB
  clear hX hF hB
  go_wp2_with fail
  refine (q_new w2).mono ?_
  rintro e w3 ⟨G, h, rfl, hY, hG, hB⟩
  have HX2 := Lib.hid (HX.out.below hB)
  have HY := Lib.hid hY; have HGY := Lib.hid hG; have HB2 := Lib.hid (HB1.out.trans (hB.mono HB1.out.size)); have HS := Lib.hid hB.size
  have HAP : Hid (∀ b, G b → ¬ F b) := Lib.hid (fun b hb hf => by have h1 := HX.out.lt b hf; have h2 := HGY.out b hb; omega)
  clear hY hG hB HX HB1
  go_wp2_with fail
  have hA := q_add HX2.out (by omega) 5 5 3 (by omega) (by omega)
  rw [show addQ [] 0 5 5 3 = (0, 0, [⟨0, 5, 3, [0, 0, 0, 0, 0], none⟩], 1) by decide +kernel] at hA
  refine hA.mono ?_
  clear hA
  rintro e w4 ⟨rfl, F2, hX, hS⟩
  have HY2 := Lib.hid (HY.out.step hS HAP.out)
  have HB3 := Lib.hid (hS.below HB2.out HFX.out)
  clear hX hS HY HB2 HX2 HAP
  go_wp2_with fail
  have hL := q_load HY2.out 5 1 (by omega)
  rw [show loadQ [] 5 1 = (10, 0) by decide +kernel] at hL
  refine hL.mono ?_
  clear hL
  rintro e w5 ⟨rfl, hB⟩
  have hB5 := HB3.out.trans (hB.mono HB3.out.size)
  have h1 := (hB5.block _ s1).trans H1.out
  have c1 : w5.cell? ⟨w.heap.size, 1, none⟩ = some (.int .u64 ad) := (blk_cell h1 1).trans rfl
  have c2 : w5.cell? ⟨w.heap.size, 2, none⟩ = some (.int .i64 n) := (blk_cell h1 2).trans rfl
  have c3 : w5.cell? ⟨w.heap.size, 3, none⟩ = some (.int .i64 m) := (blk_cell h1 3).trans rfl
  have c4 : w5.cell? ⟨w.heap.size, 4, none⟩ = some (.int .u64 v) := (blk_cell h1 4).trans rfl
  have c5 : w5.cell? ⟨w.heap.size, 5, none⟩ = some (.slice ao l c) := (blk_cell h1 5).trans rfl
  have HBF := Lib.hid (HB.out.trans (hB5.mono HB.out.size))
  clear h1 hB5 hB HB3 HY2 HGY HFX HS
  go_wp2_with fail
  refine (nil_Kill n w5).mono ?_
  rintro e w6 ⟨rfl, rfl⟩
  go_wp2_with fail
  refine (nil_Store ad n v w5).mono ?_
  rintro e w6 ⟨rfl, rfl⟩
  go_wp2_with fail
  refine (nil_Write ad (.slice ao l c) w5).mono ?_
  rintro e w6 ⟨rfl, rfl⟩
  go_wp2_with fail
  refine (nil_Poke n m (.slice ao l c) w5).mono ?_
  rintro e w6 ⟨rfl, rfl⟩
  go_wp2_with fail
  refine (nil_Copy w5).mono ?_
  rintro e w6 ⟨rfl, rfl⟩
  go_wp2_with fail
  refine (nil_Count w5).mono ?_
  rintro e w6 ⟨rfl, rfl⟩
  go_wp2_with fail
  refine (nil_Live n w5).mono ?_
  rintro e w6 ⟨rfl, rfl⟩
  go_wp2
  go_ret
  exact ⟨rfl, HBF.out⟩
end Go.Proofs.Ytpjgaacdohiomaa.MemNil
