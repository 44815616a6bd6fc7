/- mem: a copy goes on as its own memory: the law's function, walked by hand. -/
import Derived.Test.YtpjgaacdohiomaaMemR4
import Derived.Test.YtpjgaacdohiomaaMemR5
namespace Go.Proofs.Ytpjgaacdohiomaa.MemCopies
open Go.RowKit Go.Proofs.Ytpjgaacdohiomaa.PMemCopies Go.Proofs.YtpjgaacdohiomaaW.PrintWords Go.Proofs.YtpjgaacdohiomaaW.PrintLast Go.Proofs.YtpjgaacdohiomaaW.PrintMore Go.Proofs.Ytpjgaacdohiomaa.Mw Go.Proofs.Ytpjgaacdohiomaa.Mem1 Go.Proofs.Ytpjgaacdohiomaa.Mem3 Go.Proofs.Ytpjgaacdohiomaa.Mem5 Go.Proofs.Ytpjgaacdohiomaa.MemF Go.Proofs.Ytpjgaacdohiomaa.MemQ Go.Proofs.Ytpjgaacdohiomaa.MemRA Go.Proofs.Ytpjgaacdohiomaa.MemRB Go.Proofs.Ytpjgaacdohiomaa.MemRE Go.Proofs.Ytpjgaacdohiomaa.MemRG Go.Proofs.Ytpjgaacdohiomaa.MemRP Go.Proofs.Ytpjgaacdohiomaa.MemSim Go.Proofs.Ytpjgaacdohiomaa.MemOp Go.Proofs.Ytpjgaacdohiomaa.MemCp Go.Proofs.Ytpjgaacdohiomaa.MemCq
set_option linter.unusedVariables false
set_option linter.unusedSimpArgs false
attribute [local go_sem] max2_int min2_int max_two min_two max_three min_three max_four min_four
theorem min30 (n m : Nat) (h : m = min n 30) : Builtin.min2 (.int .i64 (n : Int)) (.int .i64 30) = pure (.int .i64 (m : Int)) := by
  rw [min2_int]
  split
  · rw [show (m : Int) = 30 by omega]
  · rw [show (m : Int) = (n : Int) by omega]
/-- Two pairs, in blocks apart. -/
def Two (w0 w : World) (gm gr gc gd : Nat) (k n : Nat) : Prop := ∃ F G, Both w F gm gr k ∧ Both w G gc gd n ∧ (∀ b, F b → ¬ G b) ∧ (∀ b, F b → w0.heap.size ≤ b) ∧ (∀ b, G b → w0.heap.size ≤ b) ∧ Below w0.heap.size w0 w
theorem Two.made {w0 w w1 w2 : World} {F1 F2 G1 G2 : Nat → Prop} {gm gr gc gd k : Nat} {rs : List Rg} {nx : Int} {ds : List DR} (hI : MQ w F1 gm rs nx) (hR : DQ w F2 gr ds) (hr : Rel rs nx ds) (ha : ∀ b, F1 b → ¬ F2 b) (hk : ds.length ≤ k) (hF : ∀ b, F1 b ∨ F2 b → w0.heap.size ≤ b) (hB : Below w0.heap.size w0 w)
    (hI1 : MQ w1 G1 gc rs nx) (hG1 : ∀ b, G1 b → w.heap.size ≤ b) (hB1 : Below w.heap.size w w1) (hR2 : DQ w2 G2 gd ds) (hG2 : ∀ b, G2 b → w1.heap.size ≤ b) (hB2 : Below w1.heap.size w1 w2) : Two w0 w2 gm gr gc gd k k := by
  have hB12 : Below w.heap.size w w2 := hB1.trans (hB2.mono hB1.size)
  refine ⟨fun b => F1 b ∨ F2 b, fun b => G1 b ∨ G2 b, ⟨F1, F2, rs, nx, ds, rfl, hI.below hB12, hR.below hB12, hr, ha, hk⟩, ⟨G1, G2, rs, nx, ds, rfl, hI1.below hB2, hR2, hr, fun b h1 h2 => by have := hI1.lt b h1; have := hG2 b h2; omega, hk⟩, fun b h1 h2 => ?_, hF, fun b h => ?_, hB.trans (hB12.mono hB.size)⟩
  · have l1 : b < w.heap.size := h1.elim (hI.lt b) (hR.lt b)
    have s1 := hB1.size
    rcases h2 with h2 | h2
    · have := hG1 b h2; omega
    · have := hG2 b h2; omega
  · have s0 := hB.size
    have s1 := hB1.size
    rcases h with h | h
    · have := hG1 b h; omega
    · have := hG2 b h; omega
theorem Two.went {w0 w w1 w2 : World} {F G G2 : Nat → Prop} {gm gr gc gd k n : Nat} (hF : Both w F gm gr k) (ha : ∀ b, F b → ¬ G b) (hl : ∀ b, F b → w0.heap.size ≤ b) (hg : ∀ b, G b → w0.heap.size ≤ b) (hB : Below w0.heap.size w0 w) (hb1 : Below w.heap.size w w1) (h2 : Both w2 G2 gc gd n) (hs : Step w1 w2 G G2) : Two w0 w2 gm gr gc gd k n := by
  have hs1 := hb1.size
  refine ⟨F, G2, (hF.below hb1).step hs ha, h2, fun b h1 h2 => (hs.foot b h2).elim (ha b h1) (fun h3 => by have := hF.lt b h1; omega), hl, hs.low (Nat.le_trans hB.size hs1) hg, hs.below (hB.trans (hb1.mono hB.size)) hg⟩
set_option maxRecDepth 100000 in
set_option maxHeartbeats 8000000 in
theorem law_calls (A : Option Addr) (xs : List OpT) (c : Nat) (D : Option Addr) (ys : List OpT) (d : Nat) (w : World) (hx : Kd.C kOp w A xs.length xs) (hc : xs.length ≤ c) (hcm : c ≤ 9223372036854775807) (hxb : ∀ p ∈ xs, OpOk p)
    (hy : Kd.C kOp w D ys.length ys) (hd : ys.length ≤ d) (hdm : d ≤ 9223372036854775807) (hyb : ∀ p ∈ ys, OpOk p) :
    Calls Try.prog 7 #[.slice A xs.length c, .slice D ys.length d] w fun e w' => e = .returned (.bool true) ∧ Below w.heap.size w w' := by
  have HX := Lib.hid hx
  have HXB := Lib.hid hxb
  have HY := Lib.hid hy
  have HYB := Lib.hid hyb
  clear hx hxb hy hyb
  obtain ⟨nn, hnn⟩ : ∃ nn : Nat, nn = xs.length := ⟨_, rfl⟩
  obtain ⟨no, hno⟩ : ∃ no : Nat, no = ys.length := ⟨_, rfl⟩
  obtain ⟨mm, hmm⟩ : ∃ mm : Nat, mm = min nn 30 := ⟨_, rfl⟩
  obtain ⟨mo, hmo⟩ : ∃ mo : Nat, mo = min no 30 := ⟨_, rfl⟩
  rw [← hnn] at hc HX ⊢
  rw [← hno] at hd HY ⊢
  have m1 := min30 nn mm hmm
  have m2 := min30 no mo hmo
  have m3 : mm ≤ c := by omega
  have m4 : mo ≤ d := by omega
  have HM := Lib.hid (show mm ≤ nn ∧ mm ≤ 30 ∧ mo ≤ no ∧ mo ≤ 30 by omega)
  have m5 : max (mm : Int) 0 = (mm : Int) := by omega
  have m6 : max (mo : Int) 0 = (mo : Int) := by omega
  clear hnn hno hmm hmo
  go_enter Try.func7, Try.ntmps7
  go_wp2_with fail
  refine (first_calls _).mono ?_
  rintro e w1 ⟨rfl, hB⟩
  have HB := Lib.hid hB
  clear hB
  go_wp2_with fail
  refine (q_new _).mono ?_
  rintro e w2 ⟨F, g, rfl, hM, hF, hB⟩
  have HS : Hid (StB w (w2.alloc (.cells #[.slice none 0 0] 52)) g w2.heap.size 0) := Lib.hid (StB.new HB.out hM hF hB)
  obtain ⟨gr, hgr⟩ : ∃ gr, gr = w2.heap.size := ⟨_, rfl⟩
  rw [← hgr] at HS
  clear hM hF hB HB
  go_wp2
  rw [← hgr]
  clear hgr
  go_loopw [27] (fun i wr => ∃ k : Nat, k ≤ mm ∧ i = .int .i64 (k : Int) ∧ Hid (StB w wr g gr k)) (fun i _ => mm - (intOf i).toNat)
  case atStart => exact ⟨0, Nat.zero_le _, rfl, HS⟩
  case round =>
    clear HS
    obtain ⟨k, hk, rfl, HS⟩ := hrel
    by_cases hlt : k < mm
    · obtain ⟨F, hBo, hF, hBel⟩ := HS.out
      have HBO := Lib.hid hBo; have HF := Lib.hid hF; have HBEL := Lib.hid hBel
      obtain ⟨p, kd, ad, n, m, v, l, A1, c1, rfl, g0, g1, g2, g3, g4, g5, hl, hC, hm⟩ := op_at HX.out k (by have := HM.out; omega)
      have HC := Lib.hid (Kd.C_below hC hBel)
      have HLOW := Lib.hid (row_low hC)
      have g0' := old hBel g0
      have g1' := old hBel g1
      have g2' := old hBel g2
      have g3' := old hBel g3
      have g4' := old hBel g4
      have g5' := old hBel g5
      have HMB := Lib.hid (HXB.out _ hm)
      have HK40 := Lib.hid (show k < 30 by have := HM.out; omega)
      clear hC hm g0 g1 g2 g3 g4 g5 hBo hF hBel HS
      go_wp2_with fail
      obtain ⟨o1, o2, o3, o4, o5⟩ := HMB.out
      have hal := below_alloc (Below.refl wr.heap.size wr) (.cells #[.int .i64 kd, .int .u64 ad, .int .i64 n, .int .i64 m, .int .u64 v, .slice A1 l.length c1] 54)
      refine (one_ _ F g gr k (HBO.out.below hal) (by have := HK40.out; omega) kd ad n m v A1 c1 l (Kd.C_below HC.out hal) hl o5 (fun ad e hp h => by have := HLOW.out ad e hp; have := HF.out _ h; omega) o1 o2 o3 o4).mono ?_
      rintro e w4 ⟨rfl, F4, hB4, hS4⟩
      have HS4 : Hid (StB w w4 g gr (k + 1)) := Lib.hid ⟨F4, hB4, hS4.low (Nat.le_trans HBEL.out.size (by simp)) HF.out, hS4.below (below_alloc HBEL.out _) HF.out⟩
      clear hB4 hS4 HBO HF HBEL hal o1 o2 o3 o4 o5
      go_wp2
      case roundEnd => exact ⟨⟨k + 1, by omega, by go_num, HS4⟩, by simp [intOf]; omega⟩
    · have HKM := Lib.hid (show k ≤ 30 by have := HM.out; omega)
      obtain ⟨F, ⟨F1, F2, rs, nx, ds, rfl, hI, hR, hr, ha, hN⟩, hF, hBel⟩ := HS.out
      have HI := Lib.hid hI; have HR := Lib.hid hR; have HA := Lib.hid (And.intro hr (And.intro ha hN)); have HF := Lib.hid hF; have HBEL := Lib.hid hBel
      clear hI hR hr ha hN hF hBel HS
      go_wp2_with fail
      refine (q_copy HI.out).mono ?_
      rintro e w5 ⟨G1, gc, rfl, hI5, hG1, hB5⟩
      have HI5 := Lib.hid hI5; have HG1 := Lib.hid hG1; have HB5 := Lib.hid hB5
      clear hI5 hG1 hB5
      go_wp2_with fail
      refine (r_copy (HR.out.below HB5.out) (by have := HA.out.2.2; have := HKM.out; omega)).mono ?_
      rintro e w6 ⟨G2, gd, rfl, hR6, hG2, hB6⟩
      have HT : Hid (Two w w6 g gr gc gd k k) := Lib.hid (Two.made HI.out HR.out HA.out.1 HA.out.2.1 HA.out.2.2 HF.out HBEL.out HI5.out HG1.out HB5.out hR6 hG2 hB6)
      clear hR6 hG2 hB6 HI HR HA HF HBEL HI5 HG1 HB5
      go_wp2
      go_loopw [48] (fun i wr => ∃ j : Nat, j ≤ mo ∧ i = .int .i64 (j : Int) ∧ Hid (Two w wr g gr gc gd k (k + j))) (fun i _ => mo - (intOf i).toNat)
      case atStart => exact ⟨0, Nat.zero_le _, rfl, HT⟩
      case round =>
        clear HT
        obtain ⟨j, hj, rfl, HT⟩ := hrel
        by_cases hlj : j < mo
        · obtain ⟨F, G, hFB, hGB, hFG, hF, hG, hBel⟩ := HT.out
          have HFB := Lib.hid hFB; have HGB := Lib.hid hGB; have HFG := Lib.hid hFG; have HF := Lib.hid hF; have HG := Lib.hid hG; have HBEL := Lib.hid hBel
          obtain ⟨p, kd, ad, n, m, v, l, A1, c1, rfl, g0, g1, g2, g3, g4, g5, hl, hC, hm⟩ := op_at HY.out j (by have := HM.out; omega)
          have HC := Lib.hid (Kd.C_below hC hBel)
          have HLOW := Lib.hid (row_low hC)
          have g0' := old hBel g0
          have g1' := old hBel g1
          have g2' := old hBel g2
          have g3' := old hBel g3
          have g4' := old hBel g4
          have g5' := old hBel g5
          have HMB := Lib.hid (HYB.out _ hm)
          have HN6 := Lib.hid (show k + j < 90000 by have := HM.out; have := HKM.out; omega)
          clear hC hm g0 g1 g2 g3 g4 g5 hFB hGB hFG hF hG hBel HT
          go_wp2_with fail
          obtain ⟨o1, o2, o3, o4, o5⟩ := HMB.out
          have hal := below_alloc (Below.refl wr.heap.size wr) (.cells #[.int .i64 kd, .int .u64 ad, .int .i64 n, .int .i64 m, .int .u64 v, .slice A1 l.length c1] 54)
          refine (one_ _ G gc gd (k + j) (HGB.out.below hal) HN6.out kd ad n m v A1 c1 l (Kd.C_below HC.out hal) hl o5 (fun ad e hp h => by have := HLOW.out ad e hp; have := HG.out _ h; omega) o1 o2 o3 o4).mono ?_
          rintro e w7 ⟨rfl, G4, hB7, hS7⟩
          have HT7 : Hid (Two w w7 g gr gc gd k (k + (j + 1))) := Lib.hid (Two.went HFB.out HFG.out HF.out HG.out HBEL.out hal hB7 hS7)
          clear hB7 hS7 HFB HGB HFG HF HG HBEL g0' g1' g2' g3' g4' g5' hal o1 o2 o3 o4 o5
          go_wp2
          case roundEnd => exact ⟨⟨j + 1, by omega, by go_num, HT7⟩, by simp [intOf]; omega⟩
        · obtain ⟨F, G, ⟨D1, D2, rs, nx, ds, rfl, hI, hR, hr, ha, hN⟩, hGB, hFG, hF, hG, hBel⟩ := HT.out
          obtain ⟨es, hes, hDI⟩ := hR
          obtain ⟨ao, bl, cap, q0, q1, q2, hat⟩ := hDI.at_
          have HI := Lib.hid hI; have HDI := Lib.hid hDI; have HES := Lib.hid hes; have HRL := Lib.hid hr; have HBEL := Lib.hid hBel; have HAT := Lib.hid hat; have HN := Lib.hid hN
          obtain ⟨nd, hnd⟩ : ∃ nd, nd = es.length := ⟨_, rfl⟩
          have HND := Lib.hid hnd
          have nd5 : nd ≤ 100000 := by rw [hnd]; exact hDI.len
          rw [← hnd] at q0 q1
          have HQ0 := Lib.hid q0
          clear hI hes hDI hr ha hN hGB hFG hF hG hBel hat hnd HT q2
          go_wp2
          clear q0 q1
          go_loopw [63] (fun i wr => ∃ t : Nat, t ≤ nd ∧ i = .int .i64 (t : Int) ∧ Hid (MQ wr D1 g rs nx) ∧ Hid (DIx wr D2 gr es) ∧ Hid (Below w.heap.size w wr)) (fun i _ => nd - (intOf i).toNat)
          case atStart => exact ⟨0, Nat.zero_le _, rfl, HI, HDI, HBEL⟩
          case round =>
            clear HI HDI HBEL HAT HQ0
            obtain ⟨t, ht, rfl, HI, HDI, HBEL⟩ := hrel
            by_cases hlt3 : t < nd
            · obtain ⟨e, he⟩ : ∃ e, es[t]? = some e := ⟨_, List.getElem?_eq_getElem (by rw [← HND.out]; exact hlt3)⟩
              have her : ds[t]? = some e.r := by rw [← HES.out, List.getElem?_map, he]; rfl
              obtain ⟨b1, b2⟩ := bytes_same HRL.out (t : Int)
              have hlen := (HDI.out.regs t e he).ok.len
              have hby := q_bytes HI.out (t : Int)
              have HHAS : Hid (∀ W, Below wr.heap.size wr W → Calls Try.prog 27 #[.pointer (some ⟨gr, 0, none⟩), .int .i64 (t : Int)] W fun e W' => e = .returned (.bool (hasD ds (t : Int))) ∧ W' = W) := Lib.hid fun W hb => by
                have := Has_ (HDI.out.below hb) (t : Int)
                rw [HES.out] at this
                exact this.mono fun e W' ⟨h1, h2⟩ => ⟨h1, h2.symm⟩
              cases hh : hasD ds (t : Int) with
              | false =>
                rw [hh] at HHAS
                rw [(b1 hh).1] at hby
                have HBY := Lib.hid hby
                clear b1 b2 hby hlen her he hh
                go_wp2_with fail
                refine HBY.out.mono ?_
                rintro x w8 ⟨u, rfl, hv, hb8⟩
                obtain ⟨A8, c8, rfl, hC8, -⟩ := bv_read hv (by simp)
                have HB8 := Lib.hid hb8
                have HI8 := Lib.hid (HI.out.below hb8)
                have HDI8 := Lib.hid (HDI.out.below hb8)
                have HBEL8 := Lib.hid (HBEL.out.trans (hb8.mono HBEL.out.size))
                clear hv hC8 hb8 HBY
                go_wp2_with fail
                go_quiet ((go_at_call 27
                           refine Calls.quiet_of_same (HHAS.out _ ?_)
                           exact pw_below_drewN HB8.out _))
                go_wp2
                case roundEnd => exact ⟨⟨t + 1, by omega, by go_num, Lib.hid (HI8.out.drewN _), Lib.hid (HDI8.out.drewN _), Lib.hid (pw_below_drewN HBEL8.out _)⟩, by simp [intOf]; omega⟩
              | true =>
                rw [hh] at HHAS
                rw [(b2 t e.r rfl her hh).1] at hby
                have HBY := Lib.hid hby
                have HLEN := Lib.hid hlen
                have HE := Lib.hid he
                clear b1 b2 hby hlen her he hh
                go_wp2_with fail
                refine HBY.out.mono ?_
                rintro x w8 ⟨u, rfl, hv, hb8⟩
                obtain ⟨A8, c8, rfl, hC8, -⟩ := bv_read hv (by have := HLEN.out; omega)
                have HB8 := Lib.hid hb8
                have HI8 := Lib.hid (HI.out.below hb8)
                have HDI8 := Lib.hid (HDI.out.below hb8)
                have HBEL8 := Lib.hid (HBEL.out.trans (hb8.mono HBEL.out.size))
                obtain ⟨ao8, bl8, cap8, z0, z1, z2, hat8⟩ := HDI8.out.at_
                rw [← HND.out] at z0 z1
                obtain ⟨rfl, r0, r1, r2, r3, r4, -⟩ := hat8 t e HE.out
                have hgb := rowC (HDI8.out.regs t e HE.out).row (by have := HLEN.out; omega)
                have hs1 := fun n => Kd.C_string (P := Try.prog) (A := A8) (c := c8) Try.underlying36 Try.underlying5 Try.underlying9 (Kd.C_below hC8 (pw_below_drewN (Below.refl _ _) n))
                have hs2 := fun n => Kd.C_string (P := Try.prog) (A := some ⟨e.gb, 0, none⟩) (c := e.cb) Try.underlying36 Try.underlying5 Try.underlying9 (Kd.C_below hgb (pw_below_drewN (Below.refl _ _) n))
                have hs1' := hs1 0
                have hs2' := hs2 0
                have hsb : ((strOfNums e.r.bytes).toList == (strOfNums e.r.bytes).toList) = true := by simp
                have d0 : (0 : Int) ≤ (t : Int) := by omega
                have d5 : (t : Int) < (nd : Int) := by omega
                clear hv hC8 hb8 HBY hat8 hgb r0 r1 r2 r4 z2
                go_wp2_with fail
                go_quiet ((go_at_call 27
                           refine Calls.quiet_of_same (HHAS.out _ ?_)
                           exact pw_below_drewN HB8.out _))
                go_wp2
                case roundEnd => exact ⟨⟨t + 1, by omega, by go_num, Lib.hid (HI8.out.drewN _), Lib.hid (HDI8.out.drewN _), Lib.hid (pw_below_drewN HBEL8.out _)⟩, by simp [intOf]; omega⟩
            · go_wp2
              go_ret
              exact ⟨rfl, HBEL.out⟩
end Go.Proofs.Ytpjgaacdohiomaa.MemCopies
