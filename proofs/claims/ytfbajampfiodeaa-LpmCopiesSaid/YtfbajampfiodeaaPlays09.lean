/- every script of calls is answered as the document says, walked by hand. -/
import Derived.Test.YtfbajampfiodeaaSim09
import Derived.Test.YtfbajampfiodeaaFirst09
import Derived.Test.YtfbajampfiodeaaOp
namespace Go.Proofs.Ytfbajampfiodeaa.Plays09
open Go.RowKit Go.Proofs.Ytfbajampfiodeaa.PArrayPlays Go.Proofs.YtfbajampfiodeaaW.PrintWords Go.Proofs.YtfbajampfiodeaaW.PrintLast Go.Proofs.YtfbajampfiodeaaW.PrintMore Go.Proofs.Ytfbajampfiodeaa.Mw Go.Proofs.Ytfbajampfiodeaa.Rx Go.Proofs.Ytfbajampfiodeaa.RxPut Go.Proofs.Ytfbajampfiodeaa.Fresh Go.Proofs.Ytfbajampfiodeaa.LpmM Go.Proofs.Ytfbajampfiodeaa.Imp09 Go.Proofs.Ytfbajampfiodeaa.Sim09 Go.Proofs.Ytfbajampfiodeaa.First09 Go.Proofs.Ytfbajampfiodeaa.Op
set_option linter.unusedVariables false
attribute [local go_sem] max2_int min2_int max_two min_two max_three min_three max_four min_four
/-- The sizes' own block. -/
abbrev wb (w : World) (a b : Int) : World := w.alloc (.cells #[.int .i64 a, .int .i64 b] 22)
theorem wb_below (w : World) (a b : Int) : Below w.heap.size w (wb w a b) := (Below.refl _ _).alloc (Nat.le_refl _) _
theorem wb_at {w w1 : World} {a b : Int} (h : Below (wb w a b).heap.size (wb w a b) w1) : w1.cell? ⟨w.heap.size, 0, none⟩ = some (.int .i64 a) ∧ w1.cell? ⟨w.heap.size, 1, none⟩ = some (.int .i64 b) :=
  ⟨old h ((blk_cell (heap_alloc_new w (.cells #[.int .i64 a, .int .i64 b] 22)) 0).trans rfl), old h ((blk_cell (heap_alloc_new w (.cells #[.int .i64 a, .int .i64 b] 22)) 1).trans rfl)⟩
/-- Both, behind the world w0. -/
def StB (w0 w : World) (gx gr n : Nat) (sz : Int) : Prop := ∃ F, Both w F gx gr n sz ∧ (∀ b, F b → w0.heap.size ≤ b) ∧ Below w0.heap.size w0 w
theorem StB.below {w0 w w' : World} {gx gr n : Nat} {sz : Int} (h : StB w0 w gx gr n sz) (hb : Below w.heap.size w w') : StB w0 w' gx gr n sz := by
  obtain ⟨F, h1, h2, h3⟩ := h
  exact ⟨F, h1.below hb, h2, h3.trans (hb.mono h3.size)⟩
/-- A new pair. -/
theorem StB.new {w0 w1 w2 w3 : World} {F1 F2 : Nat → Prop} {gx gr : Nat} {s m : Int} (hB : Below w0.heap.size w0 w1) (hI : Imp w2 F1 gx 0 (szOf s) (st0 m)) (hF1 : ∀ b, F1 b → w1.heap.size ≤ b) (hB2 : Below w1.heap.size w1 w2)
    (hR : RI w3 F2 gr kd (szOf s) (st0 m)) (hF2 : ∀ b, F2 b → w2.heap.size ≤ b) (hB3 : Below w2.heap.size w2 w3) : StB w0 w3 gx gr 0 (szOf s) := by
  refine ⟨_, ⟨F1, F2, st0 m, rfl, hI.keep (fun b hb => hB3.block b (hI.lt b hb)) hB3.size, hR, fun b h1 h2 => by have := hI.lt b h1; have := hF2 b h2; omega, by show (0 : Int) ≤ ((0 : Nat) : Int); omega⟩, ?_, hB.trans ((hB2.mono hB.size).trans (hB3.mono (Nat.le_trans hB.size hB2.size)))⟩
  intro b hb
  rcases hb with hb | hb
  · exact Nat.le_trans hB.size (hF1 b hb)
  · exact Nat.le_trans (Nat.le_trans hB.size hB2.size) (hF2 b hb)
theorem law_bad (s m : Int) (A : Option Addr) (l c : Nat) (w : World) (h : ¬ SzOk s m) :
    Calls Try.prog 13 #[.agg #[.int .i64 s, .int .i64 m], .slice A l c] w fun e w' => e = .returned (.bool true) ∧ Below w.heap.size w w' := by
  have HH := Lib.hid h
  clear h
  go_enter Try.func13, Try.ntmps13
  go_wp2_with fail
  refine (first_calls (wb w s m)).mono ?_
  rintro e w1 ⟨rfl, hB⟩
  have HB := Lib.hid hB
  obtain ⟨k0, k1⟩ := wb_at hB
  clear hB
  go_wp2_with fail
  refine ((new_bad s m HH.out).1 _).mono ?_
  rintro e w2 ⟨rfl, rfl⟩
  go_wp2_with fail
  refine ((new_bad s m HH.out).2 _).mono ?_
  rintro e w2 ⟨rfl, rfl⟩
  go_wp2
  go_ret
  exact ⟨rfl, (wb_below w s m).trans (HB.out.mono (by simp))⟩
/-- The end: both list the same. -/
theorem law_ok (s m : Int) (A : Option Addr) (xs : List (Int × List Int × Int)) (c : Nat) (w : World) (hok : SzOk s m) (hx : Kd.C kOp w A xs.length xs) (hc : xs.length ≤ c) (hcm : c ≤ 9223372036854775807) (hxb : ∀ p ∈ xs, ∀ b ∈ p.2.1, 0 ≤ b ∧ b ≤ 255) :
    Calls Try.prog 13 #[.agg #[.int .i64 s, .int .i64 m], .slice A xs.length c] w fun e w' => e = .returned (.bool true) ∧ Below w.heap.size w w' := by
  have HX := Lib.hid (Kd.C_below hx (wb_below w s m))
  have HXB := Lib.hid hxb
  have HW := Lib.hid (wb_below w s m)
  have HOK := Lib.hid hok
  clear hx hxb hok
  obtain ⟨nn, hnn⟩ : ∃ nn : Nat, nn = xs.length := ⟨_, rfl⟩
  have HN := Lib.hid hnn
  rw [← hnn] at hc HX ⊢
  clear hnn
  go_enter Try.func13, Try.ntmps13
  go_wp2_with fail
  refine (first_calls (wb w s m)).mono ?_
  rintro e w1 ⟨rfl, hB⟩
  have HB := Lib.hid hB
  obtain ⟨k0, k1⟩ := wb_at hB
  clear hB
  go_wp2_with fail
  refine ((new_both s m HOK.out).1 w1).mono ?_
  rintro e w2 ⟨F1, g, rfl, hI, hF1, hB2⟩
  have HI := Lib.hid hI; have HF1 := Lib.hid hF1; have HB2 := Lib.hid hB2
  have l0 := old hB2 k0
  have l1 := old hB2 k1
  clear hI hF1 hB2 k0 k1
  go_wp2_with fail
  refine ((new_both s m HOK.out).2 w2).mono ?_
  rintro e w3 ⟨F2, gr, rfl, hR, hF2, hB3⟩
  have HS : Hid (StB (wb w s m) w3 g gr 0 (szOf s)) := Lib.hid (StB.new HB.out HI.out HF1.out HB2.out hR hF2 hB3)
  clear hR hF2 hB3 HB HI HF1 HB2 l0 l1
  go_wp2
  go_loopw [45] (fun i wr => ∃ k : Nat, k ≤ nn ∧ k ≤ 80 ∧ i = .int .i64 (k : Int) ∧ Hid (StB (wb w s m) wr g gr k (szOf s))) (fun i _ => nn - (intOf i).toNat)
  case atStart => exact ⟨0, Nat.zero_le _, by omega, rfl, HS⟩
  case round =>
    clear HS
    obtain ⟨k, hk, hk80, rfl, HS⟩ := hrel
    by_cases hlt : k < nn ∧ k < 80
    · obtain ⟨hlt, hlt8⟩ := hlt
      obtain ⟨F, hBo, hF, hBel⟩ := HS.out
      have HBO := Lib.hid hBo; have HF := Lib.hid hF; have HBEL := Lib.hid hBel
      obtain ⟨ad, a, l, f, A1, c1, rfl, g0, g1, g2, hl, hC, hm⟩ := op_at HX.out k (by omega)
      have HC := Lib.hid (Kd.C_below hC hBel)
      have HLOW := Lib.hid (row_low hC)
      have g0' := old hBel g0
      have g1' := old hBel g1
      have g2' := old hBel g2
      have HM := Lib.hid (HXB.out _ hm)
      have n80 : ¬ ((k : Int) ≥ 80) := by omega
      clear hC hm g0 g1 g2 hBo hF hBel HS
      go_wp2_with fail
      refine (one_ _ F g gr k (szOf s) (HBO.out.alloc _) (by omega) a A1 c1 l f (Kd.C_alloc HC.out _) hl HM.out (fun ad e hp h => by have := HLOW.out ad e hp; have := HF.out _ h; omega)).mono ?_
      rintro e w4 ⟨rfl, F4, hB4, hS4⟩
      have HS4 : Hid (StB (wb w s m) w4 g gr (k + 1) (szOf s)) := Lib.hid ⟨F4, hB4, hS4.low (Nat.le_trans HBEL.out.size (by simp)) HF.out, hS4.below (below_alloc HBEL.out _) HF.out⟩
      clear hB4 hS4 HBO HF HBEL
      go_wp2
      go_roundw
      case rel => exact ⟨k + 1, by omega, by omega, by go_num, HS4⟩
      case measure => simp [intOf]; omega
    · have HEND : Hid (k = nn ∨ k = 80 ∧ k < nn) := Lib.hid (by omega)
      obtain ⟨F, ⟨F1, F2, st, rfl, hI, hR, ha, hck⟩, hF, hBel⟩ := HS.out
      have HI := Lib.hid hI; have HR := Lib.hid hR; have HBEL := Lib.hid hBel
      clear hI hR ha hck hF HS
      rcases HEND.out with rfl | ⟨hk8, hlt2⟩
      · clear hlt hBel
        have hrows := HR.out.rows
        have hrl : ∀ l ∈ keys st, l.length ≤ 9223372036854775807 := fun l hl => by have := (hrows.2 l hl).2.1; omega
        have HRL := Lib.hid hrl; have HRW := Lib.hid hrows
        clear hrl hrows
        go_wp2_with fail
        refine (imp_keys (HI.out.keep (fun _ _ => rfl) (Nat.le_refl _))).mono ?_
        rintro e w7 ⟨v, rfl, hF7, hB7⟩
        obtain ⟨A7, c7, rfl, _, hC7⟩ := hF7.read (by have := HRW.out.1; omega) HRL.out
        have HC7 := Lib.hid hC7; have HB7 := Lib.hid (below_step HBEL.out hB7)
        have HR7 := Lib.hid ((HR.out.keep (fun _ _ => rfl) (Nat.le_refl _)).keep (fun b hb => hB7.block b (HR.out.lt b hb)) hB7.size)
        clear hF7 hB7 hC7
        go_wp2_with fail
        refine (ref_keys HR7.out).mono ?_
        rintro e w8 ⟨v, rfl, hF8, hB8⟩
        obtain ⟨A8, c8, rfl, _, hC8⟩ := hF8.read (by have := HRW.out.1; omega) HRL.out
        have HC8 := Lib.hid hC8; have HB8 := Lib.hid (below_step HB7.out hB8)
        have HC7' := Lib.hid (Kd.C_below HC7.out hB8)
        clear hF8 hB8 hC8 HC7
        go_wp2_with fail
        refine (SameKeys09.sameKeys_ w8 A7 A8 c7 c8 (keys st) (keys st) HC7'.out HC8.out (fun l hl => (HRW.out.2 l hl).2.2) (fun l hl => (HRW.out.2 l hl).2.2) (by have := HRW.out.1; omega)).mono ?_
        rintro e w9 ⟨rfl, n, rfl⟩
        rw [decide_eq_true rfl]
        go_wp2
        go_ret
        exact ⟨rfl, pw_below_drewN (HW.out.trans (HB8.out.mono HW.out.size)) n⟩
      · obtain ⟨ad, a, l, f, A1, c1, rfl, g0, g1, g2, hl, hC, hm⟩ := op_at HX.out k hlt2
        have g0' := old hBel g0
        have g1' := old hBel g1
        have g2' := old hBel g2
        have n80 : (k : Int) ≥ 80 := by omega
        clear hC hm g0 g1 g2 hlt hBel hk8
        have hrows := HR.out.rows
        have hrl : ∀ l ∈ keys st, l.length ≤ 9223372036854775807 := fun l hl => by have := (hrows.2 l hl).2.1; omega
        have HRL := Lib.hid hrl; have HRW := Lib.hid hrows
        clear hrl hrows
        go_wp2_with fail
        refine (imp_keys (HI.out.keep (fun b hb => Below.heap_alloc _ _ b (HI.out.lt b hb)) (by simp))).mono ?_
        rintro e w7 ⟨v, rfl, hF7, hB7⟩
        obtain ⟨A7, c7, rfl, _, hC7⟩ := hF7.read (by have := HRW.out.1; omega) HRL.out
        have HC7 := Lib.hid hC7; have HB7 := Lib.hid (below_step (below_alloc HBEL.out _) hB7)
        have HR7 := Lib.hid ((HR.out.keep (fun b hb => Below.heap_alloc _ _ b (HR.out.lt b hb)) (by simp)).keep (fun b hb => hB7.block b (Nat.lt_of_lt_of_le (HR.out.lt b hb) (by simp))) hB7.size)
        clear hF7 hB7 hC7
        go_wp2_with fail
        refine (ref_keys HR7.out).mono ?_
        rintro e w8 ⟨v, rfl, hF8, hB8⟩
        obtain ⟨A8, c8, rfl, _, hC8⟩ := hF8.read (by have := HRW.out.1; omega) HRL.out
        have HC8 := Lib.hid hC8; have HB8 := Lib.hid (below_step HB7.out hB8)
        have HC7' := Lib.hid (Kd.C_below HC7.out hB8)
        clear hF8 hB8 hC8 HC7
        go_wp2_with fail
        refine (SameKeys09.sameKeys_ w8 A7 A8 c7 c8 (keys st) (keys st) HC7'.out HC8.out (fun l hl => (HRW.out.2 l hl).2.2) (fun l hl => (HRW.out.2 l hl).2.2) (by have := HRW.out.1; omega)).mono ?_
        rintro e w9 ⟨rfl, n, rfl⟩
        rw [decide_eq_true rfl]
        go_wp2
        go_ret
        exact ⟨rfl, pw_below_drewN (HW.out.trans (HB8.out.mono HW.out.size)) n⟩
/-- The law, at whatever it is called. -/
theorem law_calls (s m : Int) (A : Option Addr) (xs : List (Int × List Int × Int)) (c : Nat) (w : World) (hx : Kd.C kOp w A xs.length xs) (hc : xs.length ≤ c) (hcm : c ≤ 9223372036854775807) (hxb : ∀ p ∈ xs, ∀ b ∈ p.2.1, 0 ≤ b ∧ b ≤ 255) :
    Calls Try.prog 13 #[.agg #[.int .i64 s, .int .i64 m], .slice A xs.length c] w fun e w' => e = .returned (.bool true) ∧ Below w.heap.size w w' := by
  by_cases h : SzOk s m
  · exact law_ok s m A xs c w h hx hc hcm hxb
  · exact law_bad s m A xs.length c w h
end Go.Proofs.Ytfbajampfiodeaa.Plays09
