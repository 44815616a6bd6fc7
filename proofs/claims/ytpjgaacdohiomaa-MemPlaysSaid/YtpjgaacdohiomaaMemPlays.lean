/- mem: every script of calls is answered as the document says, walked by hand. -/
import Derived.Test.YtpjgaacdohiomaaMemR4
namespace Go.Proofs.Ytpjgaacdohiomaa.MemPlays
open Go.RowKit Go.Proofs.Ytpjgaacdohiomaa.PMemCopies Go.Proofs.YtpjgaacdohiomaaW.PrintWords Go.Proofs.YtpjgaacdohiomaaW.PrintLast Go.Proofs.YtpjgaacdohiomaaW.PrintMore Go.Proofs.Ytpjgaacdohiomaa.Mw Go.Proofs.Ytpjgaacdohiomaa.Mem1 Go.Proofs.Ytpjgaacdohiomaa.Mem3 Go.Proofs.Ytpjgaacdohiomaa.MemF Go.Proofs.Ytpjgaacdohiomaa.MemQ Go.Proofs.Ytpjgaacdohiomaa.MemRA Go.Proofs.Ytpjgaacdohiomaa.MemRB Go.Proofs.Ytpjgaacdohiomaa.MemRG Go.Proofs.Ytpjgaacdohiomaa.MemRP Go.Proofs.Ytpjgaacdohiomaa.MemSim Go.Proofs.Ytpjgaacdohiomaa.MemOp
set_option linter.unusedVariables false
set_option linter.unusedSimpArgs false
attribute [local go_sem] max2_int min2_int max_two min_two max_three min_three max_four min_four
set_option maxRecDepth 100000 in
set_option maxHeartbeats 4000000 in
theorem law_calls (A : Option Addr) (xs : List OpT) (c : Nat) (w : World) (hx : Kd.C kOp w A xs.length xs) (hc : xs.length ≤ c) (hcm : c ≤ 9223372036854775807) (hxb : ∀ p ∈ xs, OpOk p) :
    Calls Try.prog 6 #[.slice A xs.length c] w fun e w' => e = .returned (.bool true) ∧ Below w.heap.size w w' := by
  have HX := Lib.hid hx
  have HXB := Lib.hid hxb
  clear hx hxb
  obtain ⟨nn, hnn⟩ : ∃ nn : Nat, nn = xs.length := ⟨_, rfl⟩
  have HN := Lib.hid hnn
  rw [← hnn] at hc HX ⊢
  clear hnn
  go_enter Try.func6, Try.ntmps6
  go_wp2_with fail
  refine (first_calls _).mono ?_
  rintro e w1 ⟨rfl, hB⟩
  have HB := Lib.hid hB
  clear hB
  go_wp2_with fail
  refine (q_new _).mono ?_
  rintro e w2 ⟨F, g, rfl, hM, hF, hB⟩
  have HS : Hid (StB w (w2.alloc (.cells #[.slice none 0 0] 52)) g w2.heap.size 0) := Lib.hid (StB.new HB.out hM hF hB)
  obtain ⟨gr, hgr⟩ : ∃ gr, gr = w2.heap.size := ⟨_, rfl⟩
  rw [← hgr] at HS
  clear hM hF hB HB
  go_wp2
  rw [← hgr]
  clear hgr
  go_loopw [14] (fun i wr => ∃ k : Nat, k ≤ nn ∧ k ≤ 60 ∧ i = .int .i64 (k : Int) ∧ Hid (StB w wr g gr k)) (fun i _ => nn - (intOf i).toNat)
  case atStart => exact ⟨0, Nat.zero_le _, by omega, rfl, HS⟩
  case round =>
    clear HS
    obtain ⟨k, hk, hk60, rfl, HS⟩ := hrel
    by_cases hlt : k < nn
    · obtain ⟨F, hBo, hF, hBel⟩ := HS.out
      have HBO := Lib.hid hBo; have HF := Lib.hid hF; have HBEL := Lib.hid hBel
      obtain ⟨p, kd, ad, n, m, v, l, A1, c1, rfl, g0, g1, g2, g3, g4, g5, hl, hC, hm⟩ := op_at HX.out k hlt
      have HC := Lib.hid (Kd.C_below hC hBel)
      have HLOW := Lib.hid (row_low hC)
      have g0' := old hBel g0
      have g1' := old hBel g1
      have g2' := old hBel g2
      have g3' := old hBel g3
      have g4' := old hBel g4
      have g5' := old hBel g5
      have HM := Lib.hid (HXB.out _ hm)
      clear hC hm g0 g1 g2 g3 g4 g5 hBo hF hBel HS
      by_cases h60 : k < 60
      · have n60 : ¬ ((k : Int) ≥ 60) := by omega
        go_wp2_with fail
        obtain ⟨o1, o2, o3, o4, o5⟩ := HM.out
        have hal := below_alloc (Below.refl wr.heap.size wr) (.cells #[.int .i64 kd, .int .u64 ad, .int .i64 n, .int .i64 m, .int .u64 v, .slice A1 l.length c1] 54)
        refine (one_ _ F g gr k (HBO.out.below hal) (by omega) kd ad n m v A1 c1 l (Kd.C_below HC.out hal) hl o5 (fun ad e hp h => by have := HLOW.out ad e hp; have := HF.out _ h; omega) o1 o2 o3 o4).mono ?_
        rintro e w4 ⟨rfl, F4, hB4, hS4⟩
        have HS4 : Hid (StB w w4 g gr (k + 1)) := Lib.hid ⟨F4, hB4, hS4.low (Nat.le_trans HBEL.out.size (by simp)) HF.out, hS4.below (below_alloc HBEL.out _) HF.out⟩
        obtain ⟨G1, G2, rs, nx, ds, rfl, hI, hR, hr, ha, hN⟩ := hB4
        have hq1 := q_count hI
        rw [count_same hr] at hq1
        have HQ1 := Lib.hid hq1
        have HQ2 := Lib.hid (r_count hR)
        obtain ⟨C, hC⟩ : ∃ C : Int, C = (countD ds : Int) := ⟨_, rfl⟩
        rw [← hC] at HQ1 HQ2
        clear hI hR hr ha hN hq1 hC hS4 HBO HF HBEL hal o1 o2 o3 o4 o5
        go_wp2_with fail
        refine HQ1.out.mono ?_
        rintro e w5 ⟨rfl, rfl⟩
        go_wp2_with fail
        refine HQ2.out.mono ?_
        rintro e w6 ⟨rfl, hB6⟩
        have HS6 := Lib.hid (HS4.out.below hB6)
        clear hB6 HS4
        go_wp2
        case roundEnd => exact ⟨⟨k + 1, by omega, by omega, by go_num, HS6⟩, by simp [intOf]; omega⟩
      · have n60 : (k : Int) ≥ 60 := by omega
        go_wp2
        go_ret
        exact ⟨rfl, below_alloc HBEL.out _⟩
    · obtain ⟨F, hBo, hF, hBel⟩ := HS.out
      have HBEL := Lib.hid hBel
      clear HS hBo hF hBel
      go_wp2
      go_ret
      exact ⟨rfl, HBEL.out⟩
end Go.Proofs.Ytpjgaacdohiomaa.MemPlays
