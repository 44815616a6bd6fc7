/- Bits, bit (the document's), bit and length (lpm's): what they answer. lpm: bit and length, walked by hand. The document's Cut, walked by hand. lpm.Index in memory: a tree of nodes by the ways of bits; what its blocks hold; what keeps them. lpm.Index: length, at, walked by hand. -/
import Derived.Test.YtfbajampfiodeaaLpm1
import Derived.Test.YtfbajampfiodeaaLeNumArrayPlays
import Derived.Deep.RegionLaw
import Derived.Test.YtfbajampfiodeaaRxPut
import Derived.Test.YtfbajampfiodeaaRxCopy
import Derived.Test.YtfbajampfiodeaaFresh
import Derived.Deep.RegionWith
import Derived.LaidEqlPtr
import Derived.Test.YtfbajampfiodeaaShelf
namespace Go.Proofs.Ytfbajampfiodeaa.LpmC
open Go.RowKit Go.Proofs.Ytfbajampfiodeaa.PArrayPlays Go.Proofs.YtfbajampfiodeaaW.PrintWords Go.Proofs.YtfbajampfiodeaaW.PrintLast Go.Proofs.YtfbajampfiodeaaW.PrintMore Go.Proofs.Ytfbajampfiodeaa.Mw Go.Proofs.Ytfbajampfiodeaa.Rx Go.Proofs.Ytfbajampfiodeaa.RxOps Go.Proofs.Ytfbajampfiodeaa.LpmB Go.Proofs.Ytfbajampfiodeaa.LpmF
open Go.Proofs.Ytfbajampfiodeaa.LeNumArrayPlays (num4 Byte)
set_option linter.unusedVariables false
theorem take4 {l : List Int} (h : 4 ≤ l.length) : l.take 4 = [l.getD 0 0, l.getD 1 0, l.getD 2 0, l.getD 3 0] := by
  match l, h with
  | a :: b :: c :: d :: t, _ => rfl
theorem C_take4 {w : World} {A : Option Addr} {l : List Int} (h : Kd.C (Kd.int .u8) w A l.length l) (h4 : 4 ≤ l.length) : Kd.C (Kd.int .u8) w A (l.take 4).length (l.take 4) := by
  have e : (l.take 4).length = 4 := by simp; omega
  refine ⟨rfl, by rw [e]; decide, fun hn => ?_⟩
  obtain ⟨ad, e1, hc⟩ := h.2.2 (by omega)
  refine ⟨ad, e1, fun j p hj => hc j p ?_⟩
  rw [e] at *
  by_cases hj4 : j < 4
  · rwa [List.getElem?_take_of_lt hj4] at hj
  · rw [List.getElem?_eq_none (by simp; omega)] at hj; cases hj
theorem number_step (k : Nat) (l : List Int) (x : Int) (i : Nat) (hi : i < l.length) (h100 : i < 100) (hx0 : 0 ≤ x) (hx : x * 256 + rd l (i : Int) < 18446744073709551616) (hb : 0 ≤ rd l (i : Int) ∧ rd l (i : Int) ≤ 255) :
    posternref01_Number.l0 (k + 1) l x (i : Int) = posternref01_Number.l0 k l (x * 256 + rd l (i : Int)) ((i : Int) - 1) := by
  rw [posternref01_Number.l0, if_pos (by omega), if_pos (by omega), if_pos (by omega)]
  have e1 : IntKind.u64.wrap (x * 256) = x * 256 := by rw [IntKind.wrap_u64]; omega
  have e2 : IntKind.u64.wrap (rd l (i : Int)) = rd l (i : Int) := by rw [IntKind.wrap_u64]; omega
  rw [e1, e2, show IntKind.u64.wrap (x * 256 + rd l (i : Int)) = x * 256 + rd l (i : Int) by rw [IntKind.wrap_u64]; omega]
  rw [show wrap64 ((i : Int) - 1) = (i : Int) - 1 by unfold wrap64; omega]
theorem number4 {l : List Int} (h : 4 ≤ l.length) (hb : Bs l) : posternref06_Bits.f 5 l = some (nb l) := by
  unfold posternref06_Bits.f
  rw [if_pos (by omega), take4 h]
  unfold posternref01_Number.f
  have h0 := hb.getD 0; have h1 := hb.getD 1; have h2 := hb.getD 2; have h3 := hb.getD 3
  unfold nb
  generalize l.getD 0 0 = a at *; generalize l.getD 1 0 = b at *; generalize l.getD 2 0 = c at *; generalize l.getD 3 0 = d at *
  have s0 := number_step 4 [a, b, c, d] 0 3 (by simp) (by decide) (by omega) (by show 0 * 256 + d < _; omega) h3
  have s1 := number_step 3 [a, b, c, d] (0 * 256 + d) 2 (by simp) (by decide) (by omega) (by show (0 * 256 + d) * 256 + c < _; omega) h2
  have s2 := number_step 2 [a, b, c, d] ((0 * 256 + d) * 256 + c) 1 (by simp) (by decide) (by omega) (by show ((0 * 256 + d) * 256 + c) * 256 + b < _; omega) h1
  have s3 := number_step 1 [a, b, c, d] (((0 * 256 + d) * 256 + c) * 256 + b) 0 (by simp) (by decide) (by omega) (by show (((0 * 256 + d) * 256 + c) * 256 + b) * 256 + a < _; omega) h0
  have e : posternref01_Number.l0 5 [a, b, c, d] 0 (wrap64 (([a, b, c, d].length : Int) - 1)) = some ((((0 * 256 + d) * 256 + c) * 256 + b) * 256 + a) := by
    rw [show wrap64 (([a, b, c, d].length : Int) - 1) = ((3 : Nat) : Int) by unfold wrap64; simp only [List.length_cons, List.length_nil]; omega]
    refine (s0.trans (s1.trans (s2.trans s3))).trans ?_
    rw [posternref01_Number.l0, if_neg (by omega)]
    rfl
  rw [e, Option.bind_some]
  congr 1
  omega
theorem Bits_ (w : World) (A : Option Addr) (c : Nat) (l : List Int) (hC : Kd.C (Kd.int .u8) w A l.length l) (hl : l.length ≤ c) (h : 4 ≤ l.length) (hb : Bs l) :
    Calls Try.prog 78 #[.slice A l.length c] w fun e w' => e = .returned (.int .u64 (nb l)) ∧ ∃ n, w' = w.drewN n :=
  (posternref06_Bits.calls 5 A c l _ w hC hl (number4 h hb)).mono fun e w' ⟨h1, ⟨h2⟩⟩ => ⟨h1, h2⟩
theorem half_step (a : Int) (h0 : 0 ≤ a) (h1 : a ≤ 255) : wrap64 (Int.tdiv a 2) = a / 2 := by
  rw [Int.tdiv_eq_ediv_of_nonneg h0]; unfold wrap64; omega
theorem bit_loop (a1 : Int) (m : Nat) (hm : wrap64 (7 - Int.tmod a1 8) = (m : Int)) : ∀ (d : Nat) (i : Nat) (a : Int), i + d = m → m ≤ 7 → 0 ≤ a → a ≤ 255 → posternref06_bit.l0 (d + 1) a1 a (i : Int) = some (bitb a d)
  | 0, i, a, hi, h7, h0, h1 => by
    rw [posternref06_bit.l0, hm, if_neg (by omega), Int.tmod_eq_emod_of_nonneg h0]
    unfold bitb
    simp
  | d + 1, i, a, hi, h7, h0, h1 => by
    rw [posternref06_bit.l0, hm, if_pos (by omega), half_step a h0 h1, show wrap64 ((i : Int) + 1) = ((i + 1 : Nat) : Int) by unfold wrap64; omega, bit_loop a1 m hm d (i + 1) (a / 2) (by omega) h7 (by omega) (by omega)]
    unfold bitb
    rw [Int.pow_succ, Int.mul_comm, Int.ediv_ediv_of_nonneg (by decide)]
theorem bit_f {l : List Int} (hb : Bs l) (i : Nat) (hi : 4 + i / 8 < l.length) (hl : l.length ≤ 100) : posternref06_bit.f 9 l (i : Int) = some (LpmB.bt l i) := by
  unfold posternref06_bit.f
  have e : wrap64 (4 + wrap64 ((i : Int).tdiv 8)) = ((4 + i / 8 : Nat) : Int) := by
    rw [Int.tdiv_eq_ediv_of_nonneg (by omega)]; unfold wrap64; omega
  rw [e, if_pos (by omega), if_pos (by omega)]
  have hx := hb.getD (4 + i / 8)
  have er : rd l ((4 + i / 8 : Nat) : Int) = l.getD (4 + i / 8) 0 := by unfold rd; rw [Int.toNat_natCast]
  rw [er]
  unfold LpmB.bt
  generalize l.getD (4 + i / 8) 0 = x at *
  rw [show wrap64 x = x by unfold wrap64; omega]
  have hm : wrap64 (7 - Int.tmod (i : Int) 8) = ((7 - i % 8 : Nat) : Int) := by
    rw [Int.tmod_eq_emod_of_nonneg (by omega)]; unfold wrap64; omega
  have := bit_loop (i : Int) (7 - i % 8) hm (7 - i % 8) 0 x (by omega) (by omega) hx.1 hx.2
  obtain ⟨q, hq⟩ : ∃ q, 9 = (7 - i % 8 + 1) + q := ⟨9 - (7 - i % 8 + 1), by omega⟩
  have mono : ∀ q k y z r, posternref06_bit.l0 k (i : Int) y z = some r → posternref06_bit.l0 (k + q) (i : Int) y z = some r := by
    intro q
    induction q with
    | zero => intro k y z r h; exact h
    | succ q ih => intro k y z r h; exact posternref06_bit.mono_l (k + q) _ _ _ _ (ih k y z r h)
  rw [hq]
  exact mono q _ _ _ _ this
theorem refbit_ (w : World) (A : Option Addr) (c : Nat) (l : List Int) (hC : Kd.C (Kd.int .u8) w A l.length l) (hl : l.length ≤ c) (hb : Bs l) (i : Nat) (hi : 4 + i / 8 < l.length) (hl1 : l.length ≤ 100) :
    Calls Try.prog 86 #[.slice A l.length c, .int .i64 (i : Int)] w fun e w' => e = .returned (.int .i64 (LpmB.bt l i)) ∧ ∃ n, w' = w.drewN n :=
  (posternref06_bit.calls 9 A c l (i : Int) _ w hC hl (bit_f hb i hi hl1)).mono fun e w' ⟨h1, ⟨h2⟩⟩ => ⟨h1, h2⟩
theorem Num_ (w : World) (A : Option Addr) (c : Nat) (l : List Int) (hC : Kd.C (Kd.int .u8) w A l.length l) (hb : Bs l) (h : 4 ≤ l.length) (hc : 4 ≤ c) :
    Calls Try.prog 62 #[.slice A 4 c] w fun e w' => e = .returned (.int .u64 (nb l)) ∧ ∃ n, w' = w.drewN n := by
  have e : (l.take 4).length = 4 := by simp; omega
  have hf : le_Num.f 8 (l.take 4) = some (nb l) := by
    rw [take4 h, num4 8 (by omega) (hb.getD 0) (hb.getD 1) (hb.getD 2) (hb.getD 3)]
    rfl
  have := le_Num.calls 8 A c (l.take 4) _ w (C_take4 hC h) (by omega) hf
  rw [e] at this
  exact this.mono fun e w' ⟨h1, ⟨h2⟩⟩ => ⟨h1, h2⟩
end Go.Proofs.Ytfbajampfiodeaa.LpmC
namespace Go.Proofs.Ytfbajampfiodeaa.LpmD
open Go.RowKit Go.Proofs.Ytfbajampfiodeaa.PArrayPlays Go.Proofs.YtfbajampfiodeaaW.PrintWords Go.Proofs.YtfbajampfiodeaaW.PrintLast Go.Proofs.YtfbajampfiodeaaW.PrintMore Go.Proofs.Ytfbajampfiodeaa.Mw Go.Proofs.Ytfbajampfiodeaa.Rx Go.Proofs.Ytfbajampfiodeaa.RxOps Go.Proofs.Ytfbajampfiodeaa.LpmB Go.Proofs.Ytfbajampfiodeaa.LpmF Go.Proofs.Ytfbajampfiodeaa.LpmC
attribute [local go_sem] max2_int min2_int max_two min_two max_three min_three max_four min_four
set_option linter.unusedVariables false
set_option linter.unusedSimpArgs false
theorem byte_is {w : World} {A : Option Addr} {l : List Int} (h : Kd.C (Kd.int .u8) w A l.length l) (i : Nat) (hi : i < l.length) : ∃ ad, A = some ad ∧ w.cell? (ad.add i) = some (.int .u8 (l.getD i 0)) := by
  obtain ⟨ad, c, e, _, hK, hc⟩ := Kd.C_get h (0 : Int) (i : Int) (by omega) (by omega)
  rw [Int.toNat_natCast] at hK
  have hu := hc 0 (.int .u8 (l.getD i 0)) (by rw [show c = [.int .u8 (l.getD i 0)] from hK]; rfl)
  refine ⟨ad, e, ?_⟩
  have hu2 : w.cell? (ad.add (i * 1 + 0)) = some (.int .u8 (l.getD i 0)) := hu
  rw [Nat.mul_one, Nat.add_zero] at hu2
  exact hu2
def lpm_bit.f (l0 : List Int) (a1 : Int) : Option (Int) := if 0 ≤ (wrap64 (4 + (wrap64 (Int.tdiv a1 8)))) then (if (wrap64 (4 + (wrap64 (Int.tdiv a1 8)))) < (l0.length : Int) then (if 0 ≤ (IntKind.u64.wrap (wrap64 (7 - (Int.tmod a1 8)))) then (some (Go.bits .and .i64 (wrap64 (shr .u8 (rd l0 (wrap64 (4 + (wrap64 (Int.tdiv a1 8))))) (IntKind.u64.wrap (wrap64 (7 - (Int.tmod a1 8)))))) 1)) else (none)) else (none)) else (none)
set_option maxHeartbeats 8000000 in
set_option maxRecDepth 100000 in
theorem lpm_bit.calls (A0 : Option Addr) (c0 : Nat) (l0 : List Int) (a1 : Int) (r : Int) (w : World) (hr0 : Kd.C (Kd.int .u8) w A0 l0.length l0) (hc0 : l0.length ≤ c0) (h : lpm_bit.f l0 a1 = some r) :
    Calls Try.prog 75 #[.slice A0 l0.length c0, .int .i64 a1] w fun e w' => e = .returned (.int .i64 r) ∧ Drawn0 w w' := by
  have HR0 := Aside0.mk hr0
  have HC0 := Aside0.mk hc0
  clear hr0 hc0
  have H : (if 0 ≤ (wrap64 (4 + (wrap64 (Int.tdiv a1 8)))) then (if (wrap64 (4 + (wrap64 (Int.tdiv a1 8)))) < (l0.length : Int) then (if 0 ≤ (IntKind.u64.wrap (wrap64 (7 - (Int.tmod a1 8)))) then (some (Go.bits .and .i64 (wrap64 (shr .u8 (rd l0 (wrap64 (4 + (wrap64 (Int.tdiv a1 8))))) (IntKind.u64.wrap (wrap64 (7 - (Int.tmod a1 8)))))) 1)) else (none)) else (none)) else (none)) = some r := h
  clear h
  obtain ⟨ji3, hji3⟩ : ∃ j_ : Int, (wrap64 (4 + (wrap64 (Int.tdiv a1 8)))) = j_ := ⟨_, rfl⟩
  replace H : (if 0 ≤ (ji3) then (if (ji3) < (l0.length : Int) then (if 0 ≤ (IntKind.u64.wrap (wrap64 (7 - (Int.tmod a1 8)))) then (some (Go.bits .and .i64 (wrap64 (shr .u8 (rd l0 (ji3)) (IntKind.u64.wrap (wrap64 (7 - (Int.tmod a1 8)))))) 1)) else (none)) else (none)) else (none)) = some r := by first | (rw [hji3] at H; exact H) | (simp only [hji3] at H ⊢; exact H)
  have hji3w : (IntKind.i64.wrap (4 + (wrap64 (Int.tdiv a1 8)))) = ji3 := (i64_w _).trans hji3
  by_cases c4 : 0 ≤ (ji3)
  · rw [if_pos c4] at H
    have c4b0 : decide (0 ≤ (ji3)) = true := decide_eq_true c4
    clear c4
    by_cases c5 : (ji3) < (l0.length : Int)
    · rw [if_pos c5] at H
      have c5b0 : decide ((ji3) < (l0.length : Int)) = true := decide_eq_true c5
      clear c5
      obtain ⟨ji6, hji6⟩ : ∃ j_ : Int, (IntKind.u64.wrap (wrap64 (7 - (Int.tmod a1 8)))) = j_ := ⟨_, rfl⟩
      replace H : (if 0 ≤ (ji6) then (some (Go.bits .and .i64 (wrap64 (shr .u8 (rd l0 (ji3)) (ji6))) 1)) else (none)) = some r := by first | (rw [hji6] at H; exact H) | (simp only [hji6] at H ⊢; exact H)
      by_cases c7 : 0 ≤ (ji6)
      · rw [if_pos c7] at H
        have c7b0 := eq_true c7
        have c7b1 : decide (0 ≤ (ji6)) = true := decide_eq_true c7
        clear c7
        obtain ⟨ji8, hji8⟩ : ∃ j_ : Int, (shr .u8 (rd l0 (ji3)) (ji6)) = j_ := ⟨_, rfl⟩
        replace H : (some (Go.bits .and .i64 (wrap64 (ji8)) 1)) = some r := by first | (rw [hji8] at H; exact H) | (simp only [hji8] at H ⊢; exact H)
        have hji8_ : ((rd l0 (ji3)) / 2 ^ min (ji6).toNat 8) = ji8 := hji8
        have hji8z : (ji6) ≤ 8 → ((rd l0 (ji3)) / 2 ^ (ji6).toNat) = ji8 := shr_small hji8
        obtain rfl := Option.some.inj H
        have p106 : 0 ≤ ((ji3) : Int) := of_decide_eq_true (by first | (with_reducible assumption) | assumption)
        have q106 : (ji3) < (l0.length : Int) := of_decide_eq_true (by first | (with_reducible assumption) | assumption)
        obtain ⟨ad106, e106, hx106_0⟩ := Kd.at_int HR0.out (ji3) p106 q106
        cases e106
        replace p106 := eq_true p106
        replace q106 := eq_true q106
        go_enter Try.func75, Try.ntmps75
        go_wp2
        go_ret
        exact ⟨by first | rfl | (simp; done) | (simp only [← hji3, ← hji6, ← hji8] <;> (first | rfl | simp)) | (simp [*]; done), by repeat (first | exact Drawn0.refl _ | apply Drawn0.step)⟩
      · rw [if_neg c7] at H
        exact absurd H (by simp)
    · rw [if_neg c5] at H
      exact absurd H (by simp)
  · rw [if_neg c4] at H
    exact absurd H (by simp)

theorem and_one {x : Int} (h0 : 0 ≤ x) (h1 : x ≤ 255) : Go.bits .and .i64 x 1 = x % 2 := by
  obtain ⟨n, rfl⟩ := Int.eq_ofNat_of_zero_le h0
  exact (by decide +kernel : ∀ v : Fin 256, Go.bits .and .i64 (v.val : Int) 1 = (v.val : Int) % 2) ⟨n, by omega⟩
theorem bit_val (x : Int) (m : Nat) (h0 : 0 ≤ x) (h1 : x ≤ 255) (hm : m ≤ 7) : Go.bits .and .i64 (wrap64 (shr .u8 x (m : Int))) 1 = bitb x m := by
  have e : shr .u8 x (m : Int) = x / 2 ^ m := by
    show x / 2 ^ min (m : Int).toNat 8 = _
    rw [Int.toNat_natCast, Nat.min_eq_left (by omega)]
  have p : (0 : Int) < 2 ^ m := Int.pow_pos (by decide)
  have a0 : 0 ≤ x / 2 ^ m := Int.ediv_nonneg h0 (by omega)
  have a1 : x / 2 ^ m ≤ 255 := Int.le_trans (Int.ediv_le_self _ h0) h1
  rw [e, show wrap64 (x / 2 ^ m) = x / 2 ^ m by unfold wrap64; omega, and_one a0 a1]
  rfl
/-- lpm's bit. -/
theorem bit_ (w : World) (A : Option Addr) (c : Nat) (l : List Int) (hC : Kd.C (Kd.int .u8) w A l.length l) (hl : l.length ≤ c) (hb : Bs l) (i : Nat) (hi : 4 + i / 8 < l.length) (hl1 : l.length ≤ 100) :
    Calls Try.prog 75 #[.slice A l.length c, .int .i64 (i : Int)] w fun e w' => e = .returned (.int .i64 (LpmB.bt l i)) ∧ ∃ n, w' = w.drewN n := by
  have hf : lpm_bit.f l (i : Int) = some (LpmB.bt l i) := by
    unfold lpm_bit.f
    have e : wrap64 (4 + wrap64 ((i : Int).tdiv 8)) = ((4 + i / 8 : Nat) : Int) := by
      rw [Int.tdiv_eq_ediv_of_nonneg (by omega)]; unfold wrap64; omega
    have hm : IntKind.u64.wrap (wrap64 (7 - Int.tmod (i : Int) 8)) = ((7 - i % 8 : Nat) : Int) := by
      rw [Int.tmod_eq_emod_of_nonneg (by omega), IntKind.wrap_u64]; unfold wrap64; omega
    rw [e, hm, if_pos (by omega), if_pos (by omega), if_pos (by omega)]
    have hx := hb.getD (4 + i / 8)
    have er : rd l ((4 + i / 8 : Nat) : Int) = l.getD (4 + i / 8) 0 := by unfold rd; rw [Int.toNat_natCast]
    rw [er, bit_val _ _ hx.1 hx.2 (by omega)]
    rfl
  exact (lpm_bit.calls A c l (i : Int) _ w hC hl hf).mono fun e w' ⟨h1, ⟨h2⟩⟩ => ⟨h1, h2⟩
end Go.Proofs.Ytfbajampfiodeaa.LpmD
namespace Go.Proofs.Ytfbajampfiodeaa.LpmE
open Go.RowKit Go.Proofs.Ytfbajampfiodeaa.PArrayPlays Go.Proofs.YtfbajampfiodeaaW.PrintWords Go.Proofs.YtfbajampfiodeaaW.PrintLast Go.Proofs.YtfbajampfiodeaaW.PrintMore Go.Proofs.Ytfbajampfiodeaa.Mw Go.Proofs.Ytfbajampfiodeaa.Rx Go.Proofs.Ytfbajampfiodeaa.RxOps Go.Proofs.Ytfbajampfiodeaa.RxPut Go.Proofs.Ytfbajampfiodeaa.LpmB Go.Proofs.Ytfbajampfiodeaa.LpmF Go.Proofs.Ytfbajampfiodeaa.LpmC Go.Proofs.Ytfbajampfiodeaa.LpmD
set_option linter.unusedVariables false
set_option linter.unusedSimpArgs false
def cutTo (l : List Int) (j : Nat) : List Int := l.take 4 ++ (List.range j).map fun j => acc l j 8
theorem cutTo_len {l : List Int} (h : 4 ≤ l.length) (j : Nat) : (cutTo l j).length = 4 + j := by unfold cutTo; simp; omega
theorem cutTo_succ (l : List Int) (j : Nat) : cutTo l (j + 1) = cutTo l j ++ [acc l j 8] := by unfold cutTo; rw [List.range_succ, List.map_append, List.append_assoc]; rfl
theorem cutTo_zero (l : List Int) : ([] : List Int) ++ l.take 4 = cutTo l 0 := by simp [cutTo]
theorem cutTo_all (l : List Int) : cutTo l (l.length - 4) = cut l := rfl
theorem rows_C {w : World} {A : Option Addr} {l : List Int} (h : Kd.C (Kd.int .u8) w A l.length l) (h4 : 4 ≤ l.length) : Kd.C (Kd.int .u8) w A 4 (l.take 4) := by
  have := C_take4 h h4
  rwa [show (l.take 4).length = 4 by simp; omega] at this
theorem ii_val (j k : Nat) (hj : j < 100) (hk : k ≤ 8) : wrap64 (wrap64 (8 * wrap64 (((4 + j : Nat) : Int) - 4)) + (k : Int)) = ((8 * j + k : Nat) : Int) := by unfold wrap64; omega
theorem u_val (n : Nat) (h : n < 10000) : IntKind.u64.wrap (n : Int) = (n : Int) := by rw [IntKind.wrap_u64]; omega
theorem pow_le8 (k : Nat) (h : k ≤ 8) : (2 : Int) ^ k ≤ 256 := by
  rcases (show k = 0 ∨ k = 1 ∨ k = 2 ∨ k = 3 ∨ k = 4 ∨ k = 5 ∨ k = 6 ∨ k = 7 ∨ k = 8 by omega) with rfl | rfl | rfl | rfl | rfl | rfl | rfl | rfl | rfl <;> decide
set_option maxHeartbeats 2000000 in
theorem Cut_ (w : World) (A : Option Addr) (c : Nat) (l : List Int) (hC : Kd.C (Kd.int .u8) w A l.length l) (hlc : l.length ≤ c) (h4 : 4 ≤ l.length) (h16 : l.length ≤ 16) (hb : Bs l) :
    Calls Try.prog 79 #[.slice A l.length c] w fun e w' => ∃ v, e = .returned v ∧ Kd.R (Kd.int .u8) 5 w' w.heap.size (fun _ => True) v (cut l) ∧ Below w.heap.size w w' := by
  have HBY := Lib.hid hb
  have HC := Lib.hid hC
  have HBI := Lib.hid (fun W (hB : Below w.heap.size w W) => Bits_ W A c l (Kd.C_below hC hB) hlc h4 hb)
  have HBT := Lib.hid (fun W (hB : Below w.heap.size w W) (i : Nat) (hi : 4 + i / 8 < l.length) => refbit_ W A c l (Kd.C_below hC hB) hlc hb i hi (by omega))
  obtain ⟨nl, hnl⟩ : ∃ n, n = l.length := ⟨_, rfl⟩
  have HNL := Lib.hid hnl
  have HB0 := Lib.hid (Below.refl w.heap.size w)
  have h4c : 4 ≤ c := by omega
  rw [← hnl] at hlc h4 h16 HBI HBT ⊢
  clear hC hb hnl
  go_enter Try.func79, Try.ntmps79
  go_wp2_with (first
    | ((with_reducible refine gate_builtin (b := .append) (xs := #[.tmp 8, .tmp 10]) rfl ?_)
       at_builtin
       refine Kd.R_append_rows (Kd.int .u8) (w0 := w) w.heap.size rfl (.tmp 8) (.tmp 10) 32 5 (.int .u8 0) 1 rfl Try.underlying32 info5 rfl (by decide) (by omega) _ ([] : List Int) (l.take 4) _ _ _ (fun _ => True) (fun _ => False) rfl rfl ?aO ?aR (fun _ _ h => h) (fun _ h => h.elim) ?aF ?aB ?aS ?aL ?_
       (case aO => (exact emptyR (heap_alloc_new _ _) (Nat.le_refl _); done))
       (case aR => (exact Kd.C_alloc (rows_C HC.out (by rw [← HNL.out]; exact h4)) _; done))
       (case aB => (exact below_alloc HB0.out _; done))
       (case aF => (exact fun _ _ => trivial; done))
       (case aS => (simp; done))
       (case aL => first | (simp; done) | (simp; omega; done))
       intro v1 w7 ho hb hg hat
       rw [cutTo_zero l] at ho
       have HO1 := Lib.hid ho
       have HB1 := Lib.hid hb
       clear ho hb hg hat)
    | fail)
  go_loopw [3, 4] (fun v i wr => ∃ (j : Nat) (x : Int), j ≤ nl - 4 ∧ i = .int .i64 x ∧ Hid (x = ((4 + j : Nat) : Int)) ∧ Hid (Kd.R (Kd.int .u8) 5 wr w.heap.size (fun _ => True) v (cutTo l j)) ∧ Hid (Below w.heap.size w wr)) (fun _ i _ => nl - (intOf i).toNat)
  case atStart => exact ⟨0, _, Nat.zero_le _, rfl, Lib.hid rfl, HO1, HB1⟩
  case round =>
    clear HO1 HB1
    obtain ⟨j, x, hj, rfl, HX, HO, HB⟩ := hrel
    by_cases hlt : x < (nl : Int)
    · have hjl : j < nl - 4 := by have := HX.out; omega
      have HBn := Lib.hid (fun n => pw_below_drewN HB.out n)
      have HQ := Lib.hid (fun n => HBI.out (wr.drewN n) (HBn.out n))
      have HQT := Lib.hid (fun n => HBT.out (wr.drewN n) (HBn.out n))
      have HA0 : Hid (acc l j 0 = 0) := Lib.hid rfl
      go_wp2
      go_loopw [5, 6] (fun a i w2 => ∃ (k : Nat) (y av : Int), k ≤ 8 ∧ i = .int .i64 y ∧ a = .int .i64 av ∧ Hid (y = (k : Int)) ∧ Hid (av = acc l j k) ∧ Hid (∃ n, w2 = wr.drewN n)) (fun _ i _ => 8 - (intOf i).toNat)
      case atStart => exact ⟨0, _, _, by omega, rfl, rfl, Lib.hid rfl, HA0, Lib.hid ⟨0, rfl⟩⟩
      case round =>
        clear HA0
        obtain ⟨k, y, av, hk, rfl, rfl, HY, HAV, HW⟩ := hrel
        by_cases hy : y < 8
        · obtain ⟨ii, hii⟩ : ∃ q, wrap64 (wrap64 (8 * wrap64 (x - 4)) + y) = q := ⟨_, rfl⟩
          have hiv : ii = ((8 * j + k : Nat) : Int) := by rw [← hii, HX.out, HY.out]; exact ii_val j k (by omega) (by have := HY.out; omega)
          have huv : IntKind.u64.wrap ii = ((8 * j + k : Nat) : Int) := by rw [hiv]; exact u_val _ (by have := HY.out; omega)
          have hacc := acc_small l j k hk
          obtain ⟨a2, ha2⟩ : ∃ q, wrap64 (av * 2) = q := ⟨_, rfl⟩
          have hp : (2 : Int) ^ k ≤ 256 := by have := HY.out; exact pow_le8 k (by omega)
          have ha2v : a2 = acc l j k * 2 := by rw [← ha2, HAV.out]; unfold wrap64; omega
          have HT := Lib.hid (fun n => HQT.out n (8 * j + k) (by have := HY.out; omega))
          rw [← hiv] at HT
          obtain ⟨nw, rfl⟩ := HW.out
          have HUV := Lib.hid huv; have HA2 := Lib.hid ha2v
          clear hiv huv hacc ha2v hp
          by_cases hlt2 : IntKind.u64.wrap ii < nb l
          · have hmk : Hid (mk l (8 * j + k) = LpmB.bt l (8 * j + k)) := Lib.hid (by unfold mk; rw [if_pos (by rw [← HUV.out]; exact hlt2)])
            have hbt := bt_or l (8 * j + k)
            have ha3 : wrap64 (a2 + LpmB.bt l (8 * j + k)) = a2 + LpmB.bt l (8 * j + k) := by
              have h1 := acc_small l j k hk
              have h2 : (2 : Int) ^ k ≤ 256 := pow_le8 k (by have := HY.out; omega)
              rw [HA2.out]; unfold wrap64; omega
            have HA3 : Hid (a2 + LpmB.bt l (8 * j + k) = acc l j (k + 1)) := Lib.hid (by rw [HA2.out, ← hmk.out]; rfl)
            generalize LpmB.bt l (8 * j + k) = bv at *
            generalize nb l = nv at *
            go_wp2_with fail
            refine (HQ.out _).mono ?_
            rintro e w2 ⟨rfl, n2, rfl⟩
            go_wp2_with fail
            refine (HT.out _).mono ?_
            rintro e w3 ⟨rfl, n3, rfl⟩
            go_wp2
            go_roundw
            case rel => exact ⟨k + 1, _, _, by have := HY.out; omega, rfl, rfl, Lib.hid (by have := HY.out; unfold wrap64; omega), Lib.hid (by first | exact HA3.out | (rw [ha3]; exact HA3.out)), Lib.hid ⟨_, rfl⟩⟩
            case measure =>
              have := HY.out
              have hy1 : wrap64 (y + 1) = y + 1 := by unfold wrap64; omega
              simp only [intOf, hy1]
              omega
          · have hmk : Hid (mk l (8 * j + k) = 0) := Lib.hid (by unfold mk; rw [if_neg (by rw [← HUV.out]; exact hlt2)])
            have HA3 : Hid (a2 = acc l j (k + 1)) := Lib.hid (by rw [HA2.out, acc, hmk.out, Int.add_zero])
            generalize nb l = nv at *
            go_wp2_with fail
            refine (HQ.out _).mono ?_
            rintro e w2 ⟨rfl, n2, rfl⟩
            go_wp2
            go_roundw
            case rel => exact ⟨k + 1, _, _, by have := HY.out; omega, rfl, rfl, Lib.hid (by have := HY.out; unfold wrap64; omega), Lib.hid (by first | exact HA3.out), Lib.hid ⟨_, rfl⟩⟩
            case measure =>
              have := HY.out
              have hy1 : wrap64 (y + 1) = y + 1 := by unfold wrap64; omega
              simp only [intOf, hy1]
              omega
        · obtain rfl : k = 8 := by have := HY.out; omega
          obtain ⟨nw, rfl⟩ := HW.out
          have hab := acc_bounds l j
          have hav : av % 256 = acc l j 8 := by rw [HAV.out]; omega
          have HAV2 := Lib.hid hav
          have hlen := cutTo_len (l := l) (by rw [← HNL.out]; exact h4) j
          have HLEN := Lib.hid hlen
          clear hab hav hlen
          go_wp2_with (first
            | ((with_reducible refine gate_builtin (b := .append) (xs := #[.tmp 39, .tmp 42]) rfl ?_)
               at_builtin
               refine Kd.R_append (Kd.int .u8) (w0 := w) w.heap.size rfl (.tmp 39) (.tmp 42) 32 5 (.int .u8 0) 1 rfl Try.underlying32 info5 rfl (by decide) (by omega) _ (cutTo l j) (av % 256) [.int .u8 (av % 256)] (fun _ => True) (fun _ => False) rfl rfl ?aP (fun _ h => h.elim) ?aF ?aO ?aB ?aS ?aL ?_
               (case aP => exact rfl)
               (case aF => exact fun _ _ => trivial)
               (case aO => exact Kd.R_drewN HO.out _)
               (case aB => exact HBn.out _)
               (case aS => exact (HBn.out nw).size)
               (case aL => have := HLEN.out; omega)
               intro v8 w8 ho hb hg hat
               have HO8 : Hid (Kd.R (Kd.int .u8) 5 w8 w.heap.size (fun _ => True) v8 (cutTo l (j + 1))) := Lib.hid (by rw [cutTo_succ, ← HAV2.out]; exact ho)
               have HB8 := Lib.hid hb
               clear ho hb hg hat)
            | fail)
          go_roundw
          case rel => exact ⟨j + 1, _, by omega, rfl, Lib.hid (by have := HX.out; unfold wrap64; omega), HO8, HB8⟩
          case measure =>
            have := HX.out
            have hx1 : wrap64 (x + 1) = x + 1 := by unfold wrap64; omega
            simp only [intOf, hx1]
            omega
    · obtain rfl : j = nl - 4 := by have := HX.out; omega
      have HO2 : Hid (Kd.R (Kd.int .u8) 5 wr w.heap.size (fun _ => True) u3 (cut l)) := Lib.hid (by rw [← cutTo_all, ← HNL.out]; exact HO.out)
      go_wp2
      go_ret
      exact ⟨_, rfl, HO2.out, HB.out⟩
end Go.Proofs.Ytfbajampfiodeaa.LpmE
namespace Go.Proofs.Ytfbajampfiodeaa.LpmT
open Go.RowKit Go.Proofs.Ytfbajampfiodeaa.PArrayPlays Go.Proofs.YtfbajampfiodeaaW.PrintWords Go.Proofs.YtfbajampfiodeaaW.PrintLast Go.Proofs.YtfbajampfiodeaaW.PrintMore Go.Proofs.Ytfbajampfiodeaa.Mw Go.Proofs.Ytfbajampfiodeaa.Rx Go.Proofs.Ytfbajampfiodeaa.RxOps Go.Proofs.Ytfbajampfiodeaa.RxPut Go.Proofs.Ytfbajampfiodeaa.LpmB Go.Proofs.Ytfbajampfiodeaa.LpmF
set_option linter.unusedVariables false
abbrev Nodes := List Int → Option (Nat × Int)
def ptr : Option (Nat × Int) → Value
  | none => .pointer none
  | some (b, _) => .pointer (some ⟨b, 0, none⟩)
def slotOf (N : Nodes) (q : List Int) : Int := match N q with
  | some (_, s) => s
  | none => -1
theorem slotOf_some {N : Nodes} {q : List Int} {b : Nat} {s : Int} (h : N q = some (b, s)) : slotOf N q = s := by unfold slotOf; rw [h]
theorem slotOf_none {N : Nodes} {q : List Int} (h : N q = none) : slotOf N q = -1 := by unfold slotOf; rw [h]
/-- The nodes lie in blocks of F. -/
structure Tree (w : World) (F : Nat → Prop) (N : Nodes) : Prop where
  at_ : ∀ p b s, N p = some (b, s) → F b ∧ w.heap[b]? = some (.cells #[ptr (N (p ++ [0])), ptr (N (p ++ [1])), .int .i64 s] 114 (0, 0))
  inj : ∀ p q b s s', N p = some (b, s) → N q = some (b, s') → p = q
  up : ∀ p x, N p = none → N (p ++ [x]) = none
/-- The index lies at g, its keys at gk. -/
structure PIxP (P : (List Int → Int) → Prop) (w : World) (F : Nat → Prop) (g gk : Nat) (sz : Int) (ks : List (Option (List Int))) (N : Nodes) : Prop where
  self : ∃ (c r : Nat) (s0 : Int), N [] = some (r, s0) ∧ w.heap[g]? = some (.cells #[.int .i64 sz, .pointer (some ⟨r, 0, none⟩), .slice (some ⟨gk, 0, none⟩) ks.length c] 116 (0, 0)) ∧ ks.length ≤ c
  row : ∃ hs : List Value, hs.length = ks.length ∧ Row w gk 32 hs ∧ ∀ (i : Nat) (v : Value) (k : Option (List Int)), hs[i]? = some v → ks[i]? = some k → KeyV w F v k
  tree : Tree w F N
  slots : P (slotOf N)
  inF : F g ∧ F gk
  lt : ∀ b, F b → b < w.heap.size
  len : 0 < ks.length ∧ ks.length ≤ 64
  szs : 5 ≤ sz ∧ sz ≤ 16
  ok : KsOk sz ks
abbrev PIx (w : World) (F : Nat → Prop) (g gk : Nat) (sz : Int) (ks : List (Option (List Int))) (N : Nodes) : Prop := PIxP (fun S => SlotsIs S ks) w F g gk sz ks N
section
variable {w w' : World} {F F' : Nat → Prop} {g gk : Nat} {sz : Int} {ks : List (Option (List Int))} {N N' : Nodes} {P : (List Int → Int) → Prop}
theorem Tree.keep (h : Tree w F N) (hk : ∀ b cs, w.heap[b]? = some (.cells cs 114 (0, 0)) → F b → w'.heap[b]? = w.heap[b]?) : Tree w' F N :=
  ⟨fun p b s e => ⟨(h.at_ p b s e).1, (hk b _ (h.at_ p b s e).2 (h.at_ p b s e).1).trans (h.at_ p b s e).2⟩, h.inj, h.up⟩
theorem Tree.mono (h : Tree w F N) (hF : ∀ b, F b → F' b) : Tree w F' N := ⟨fun p b s e => ⟨hF b (h.at_ p b s e).1, (h.at_ p b s e).2⟩, h.inj, h.up⟩
theorem PIxP.keep (h : PIxP P w F g gk sz ks N) (hk : ∀ b, F b → w'.heap[b]? = w.heap[b]?) (hsz : w.heap.size ≤ w'.heap.size) : PIxP P w' F g gk sz ks N := by
  obtain ⟨c, r, s0, h0, hs, hc⟩ := h.self
  obtain ⟨vs, hv, hr, hkv⟩ := h.row
  exact ⟨⟨c, r, s0, h0, (hk g h.inF.1).trans hs, hc⟩, ⟨vs, hv, hr.keep (hk gk h.inF.2), fun i v k h1 h2 => (hkv i v k h1 h2).keep fun b cs hb hB => hk b hB⟩, h.tree.keep (fun b _ _ hb => hk b hb), h.slots, h.inF, fun b hb => Nat.lt_of_lt_of_le (h.lt b hb) hsz, h.len, h.szs, h.ok⟩
theorem PIxP.step {G G' : Nat → Prop} (h : PIxP P w F g gk sz ks N) (hs : Step w w' G G') (ha : ∀ b, F b → ¬ G b) : PIxP P w' F g gk sz ks N :=
  h.keep (fun b hb => hs.block b (h.lt b hb) (ha b hb)) hs.size
theorem PIxP.drewN (h : PIxP P w F g gk sz ks N) (n : Nat) : PIxP P (w.drewN n) F g gk sz ks N := h.keep (fun _ _ => rfl) (Nat.le_refl _)
theorem PIxP.drew (h : PIxP P w F g gk sz ks N) : PIxP P w.drew F g gk sz ks N := h.keep (fun _ _ => rfl) (Nat.le_refl _)
theorem PIxP.below (h : PIxP P w F g gk sz ks N) (hb : Below w.heap.size w w') : PIxP P w' F g gk sz ks N := h.keep (fun b hF => hb.block b (h.lt b hF)) hb.size
theorem PIxP.alloc (h : PIxP P w F g gk sz ks N) (o : Obj) : PIxP P (w.alloc o) F g gk sz ks N := h.keep (fun b hF => Below.heap_alloc w o b (h.lt b hF)) (by simp)
theorem PIxP.mono (h : PIxP P w F g gk sz ks N) (hF : ∀ b, F b → F' b) (hl : ∀ b, F' b → b < w.heap.size) : PIxP P w F' g gk sz ks N := by
  obtain ⟨vs, hv, hr, hkv⟩ := h.row
  exact ⟨h.self, ⟨vs, hv, hr, fun i v k h1 h2 => (hkv i v k h1 h2).mono hF⟩, h.tree.mono hF, h.slots, ⟨hF _ h.inF.1, hF _ h.inF.2⟩, hl, h.len, h.szs, h.ok⟩
theorem PIxP.cells (h : PIxP P w F g gk sz ks N) : ∃ (c r : Nat) (s0 : Int), N [] = some (r, s0) ∧ w.cell? ⟨g, 0, none⟩ = some (.int .i64 sz) ∧ w.cell? ⟨g, 1, none⟩ = some (.pointer (some ⟨r, 0, none⟩)) ∧ w.cell? ⟨g, 2, none⟩ = some (.slice (some ⟨gk, 0, none⟩) ks.length c) ∧ ks.length ≤ c := by
  obtain ⟨c, r, s0, h0, hs, hc⟩ := h.self
  exact ⟨c, r, s0, h0, (blk_cell hs 0).trans rfl, (blk_cell hs 1).trans rfl, (blk_cell hs 2).trans rfl, hc⟩
theorem Tree.cells (h : Tree w F N) {p : List Int} {b : Nat} {s : Int} (e : N p = some (b, s)) : w.cell? ⟨b, 0, none⟩ = some (ptr (N (p ++ [0]))) ∧ w.cell? ⟨b, 1, none⟩ = some (ptr (N (p ++ [1]))) ∧ w.cell? ⟨b, 2, none⟩ = some (.int .i64 s) ∧ ∀ i, w.frozen? ⟨b, i, none⟩ = false := by
  have hb := (h.at_ p b s e).2
  exact ⟨(blk_cell hb 0).trans rfl, (blk_cell hb 1).trans rfl, (blk_cell hb 2).trans rfl, fun i => blk_frozen hb i⟩
/-- The kid's cell. -/
theorem Tree.kid (h : Tree w F N) {p : List Int} {b : Nat} {s x : Int} (e : N p = some (b, s)) (hx : x = 0 ∨ x = 1) : w.cell? ⟨b, x.toNat, none⟩ = some (ptr (N (p ++ [x]))) := by
  rcases hx with rfl | rfl
  · exact (h.cells e).1
  · exact (h.cells e).2.1
def upd (N : Nodes) (q : List Int) (v : Nat × Int) : Nodes := fun p => if p = q then some v else N p
theorem upd_same (N : Nodes) (q : List Int) (v : Nat × Int) : upd N q v q = some v := by unfold upd; rw [if_pos rfl]
theorem upd_ne {N : Nodes} {p q : List Int} {v : Nat × Int} (h : p ≠ q) : upd N q v p = N p := by unfold upd; rw [if_neg h]
theorem slotOf_upd (N : Nodes) (q : List Int) (b : Nat) (s : Int) : slotOf (upd N q (b, s)) q = s := slotOf_some (upd_same _ _ _)
theorem slotOf_upd_ne {N : Nodes} {p q : List Int} {v : Nat × Int} (h : p ≠ q) : slotOf (upd N q v) p = slotOf N p := by unfold slotOf; rw [upd_ne h]
theorem ptr_upd {N : Nodes} {q : List Int} {b : Nat} {s s' : Int} (h : N q = some (b, s)) (p : List Int) : ptr (upd N q (b, s') p) = ptr (N p) := by
  unfold upd
  split
  · rename_i e; subst e; rw [h]; rfl
  · rfl
/-- A node's slot is set. -/
theorem Tree.slot (h : Tree w F N) {p : List Int} {b : Nat} {s : Int} (e : N p = some (b, s)) (s' : Int) : Tree (w.setCell ⟨b, 2, none⟩ (.int .i64 s')) F (upd N p (b, s')) := by
  obtain ⟨hF, hb⟩ := h.at_ p b s e
  refine ⟨fun q b' t hq => ?_, fun q q' b' t t' h1 h2 => ?_, fun q x hq => ?_⟩
  · rw [ptr_upd e, ptr_upd e]
    by_cases hqp : q = p
    · subst hqp
      rw [upd_same] at hq
      cases hq
      exact ⟨hF, blk_put hb 2 _ rfl⟩
    · rw [upd_ne hqp] at hq
      obtain ⟨h1, h2⟩ := h.at_ q b' t hq
      exact ⟨h1, (Below.heap_setCell w _ _ b' (by rintro rfl; exact hqp (h.inj _ _ _ _ _ hq e))).trans h2⟩
  · have key : ∀ q b' t, upd N p (b, s') q = some (b', t) → ∃ t, N q = some (b', t) := by
      intro q b' t hq
      by_cases hqp : q = p
      · subst hqp; rw [upd_same] at hq; cases hq; exact ⟨s, e⟩
      · rw [upd_ne hqp] at hq; exact ⟨t, hq⟩
    obtain ⟨_, k1⟩ := key _ _ _ h1
    obtain ⟨_, k2⟩ := key _ _ _ h2
    exact h.inj _ _ _ _ _ k1 k2
  · by_cases hqp : q = p
    · subst hqp; rw [upd_same] at hq; cases hq
    · rw [upd_ne hqp] at hq
      have := h.up q x hq
      rw [upd_ne (by rintro rfl; rw [this] at e; cases e)]
      exact this
theorem snoc_ne (p : List Int) (x : Int) : p ++ [x] ≠ p := fun e => by have := congrArg List.length e; simp at this
theorem snoc_inj {p q : List Int} {x y : Int} (h : p ++ [x] = q ++ [y]) : p = q ∧ x = y := by
  have := List.append_inj' h rfl
  exact ⟨this.1, by simpa using this.2⟩
/-- A new node. -/
theorem Tree.grow (h : Tree w F N) (hlt : ∀ b, F b → b < w.heap.size) {p : List Int} {b : Nat} {s x : Int} (e : N p = some (b, s)) (hx : x = 0 ∨ x = 1) (hn : N (p ++ [x]) = none) {w1 : World} (h1 : ∀ b, b < w.heap.size → w1.heap[b]? = w.heap[b]?) (h2 : w1.heap[w.heap.size]? = some (.cells #[.pointer none, .pointer none, .int .i64 (-1)] 114 (0, 0))) :
    Tree (w1.setCell ⟨b, x.toNat, none⟩ (.pointer (some ⟨w.heap.size, 0, none⟩))) (fun b => F b ∨ b = w.heap.size) (upd N (p ++ [x]) (w.heap.size, -1)) := by
  obtain ⟨hF, hb⟩ := h.at_ p b s e
  have hbl := hlt b hF
  have hnp : ∀ y, upd N (p ++ [x]) (w.heap.size, -1) ((p ++ [x]) ++ [y]) = none := fun y => by rw [upd_ne (snoc_ne _ _)]; exact h.up _ y hn
  have hold : ∀ q b' t, N q = some (b', t) → q ≠ p ++ [x] := fun q b' t hq e2 => by rw [e2, hn] at hq; cases hq
  refine ⟨fun q b' t hq => ?_, fun q q' b' t t' k1 k2 => ?_, fun q y hq => ?_⟩
  · by_cases hqx : q = p ++ [x]
    · subst hqx
      rw [upd_same] at hq
      cases hq
      rw [hnp, hnp]
      exact ⟨.inr rfl, (Below.heap_setCell w1 _ _ _ (by show w.heap.size ≠ b; omega)).trans h2⟩
    · rw [upd_ne hqx] at hq
      obtain ⟨m1, m2⟩ := h.at_ q b' t hq
      refine ⟨.inl m1, ?_⟩
      by_cases hqp : q = p
      · subst hqp
        rw [e] at hq
        cases hq
        have m3 := (h1 b hbl).trans m2
        rcases hx with rfl | rfl
        · rw [upd_same, upd_ne (fun e2 => by have := (snoc_inj e2).2; omega)]
          exact blk_put m3 0 _ rfl
        · rw [upd_same, upd_ne (fun e2 => by have := (snoc_inj e2).2; omega)]
          exact blk_put m3 1 _ rfl
      · rw [upd_ne (fun e2 => hqp (snoc_inj e2).1), upd_ne (fun e2 => hqp (snoc_inj e2).1)]
        exact (Below.heap_setCell w1 _ _ b' (by rintro rfl; exact hqp (h.inj _ _ _ _ _ hq e))).trans ((h1 b' (hlt b' m1)).trans m2)
  · by_cases hq1 : q = p ++ [x]
    · by_cases hq2 : q' = p ++ [x]
      · rw [hq1, hq2]
      · subst hq1
        rw [upd_same] at k1; rw [upd_ne hq2] at k2
        cases k1
        exact absurd (hlt _ (h.at_ _ _ _ k2).1) (Nat.lt_irrefl _)
    · by_cases hq2 : q' = p ++ [x]
      · subst hq2
        rw [upd_same] at k2; rw [upd_ne hq1] at k1
        cases k2
        exact absurd (hlt _ (h.at_ _ _ _ k1).1) (Nat.lt_irrefl _)
      · rw [upd_ne hq1] at k1; rw [upd_ne hq2] at k2
        exact h.inj _ _ _ _ _ k1 k2
  · by_cases hqx : q = p ++ [x]
    · subst hqx; rw [upd_same] at hq; cases hq
    · rw [upd_ne hqx] at hq
      have h3 := h.up q y hq
      rw [upd_ne (fun e2 => by rw [(snoc_inj e2).1, e] at hq; cases hq)]
      exact h3
/-- The nodes have grown: the slots are the same. -/
theorem slot_grow {p : List Int} {x : Int} {b : Nat} (hn : N (p ++ [x]) = none) (q : List Int) : slotOf (upd N (p ++ [x]) (b, -1)) q = slotOf N q := by
  by_cases h : q = p ++ [x]
  · subst h; rw [slotOf_upd, slotOf_none hn]
  · exact slotOf_upd_ne h
theorem PIxP.nodes {w1 : World} (h : PIxP P w F g gk sz ks N) (hF : ∀ b, F b → F' b) (hk : ∀ (b : Nat) (t : TypeId) (cs : Array Value), w.heap[b]? = some (Obj.cells cs t (0, 0)) → t ≠ 114 → w1.heap[b]? = w.heap[b]?) (hT : Tree w1 F' N') (hr : ∀ r s, N [] = some (r, s) → ∃ s', N' [] = some (r, s')) (hS : P (slotOf N')) (hl : ∀ b, F' b → b < w1.heap.size) : PIxP P w1 F' g gk sz ks N' := by
  obtain ⟨c, r, s0, h0, hs, hc⟩ := h.self
  obtain ⟨vs, hv, ⟨rr, hrr⟩, hkv⟩ := h.row
  obtain ⟨s1, h1⟩ := hr r s0 h0
  exact ⟨⟨c, r, s1, h1, (hk g _ _ hs (by decide)).trans hs, hc⟩, ⟨vs, hv, ⟨rr, (hk gk _ _ hrr (by decide)).trans hrr⟩, fun i v k e1 e2 => ((hkv i v k e1 e2).keep fun b cs hb _ => hk b _ _ hb (by decide)).mono hF⟩, hT, hS, ⟨hF _ h.inF.1, hF _ h.inF.2⟩, hl, h.len, h.szs, h.ok⟩
end
end Go.Proofs.Ytfbajampfiodeaa.LpmT
namespace Go.Proofs.Ytfbajampfiodeaa.LpmW
open Go.RowKit Go.Proofs.Ytfbajampfiodeaa.PArrayPlays Go.Proofs.YtfbajampfiodeaaW.PrintWords Go.Proofs.YtfbajampfiodeaaW.PrintLast Go.Proofs.YtfbajampfiodeaaW.PrintMore Go.Proofs.Ytfbajampfiodeaa.Mw Go.Proofs.Ytfbajampfiodeaa.Rx Go.Proofs.Ytfbajampfiodeaa.RxOps Go.Proofs.Ytfbajampfiodeaa.RxPut Go.Proofs.Ytfbajampfiodeaa.LpmB Go.Proofs.Ytfbajampfiodeaa.LpmF Go.Proofs.Ytfbajampfiodeaa.LpmC Go.Proofs.Ytfbajampfiodeaa.LpmT Go.Proofs.Ytfbajampfiodeaa.LpmD
set_option linter.unusedVariables false
section
variable {w : World} {F : Nat → Prop} {g gk : Nat} {sz : Int} {ks : List (Option (List Int))} {N : Nodes} {P : (List Int → Int) → Prop}
theorem length_len (h : PIxP P w F g gk sz ks N) (A : Option Addr) (l c : Nat) (hl : (l : Int) ≠ sz) :
    Calls Try.prog 71 #[.pointer (some ⟨g, 0, none⟩), .slice A l c] w fun e w' => e = .returned (.int .i64 (-1)) ∧ w = w' := by
  obtain ⟨c1, r, s0, h0, g0, g1, g2, hc1⟩ := h.cells
  have b0 : ((l : Int) != sz) = true := by simpa using hl
  clear h h0 g1 g2 hc1 hl
  go_enter Try.func71, Try.ntmps71
  go_wp2
  go_ret
  exact ⟨rfl, rfl⟩
theorem length_ok (h : PIxP P w F g gk sz ks N) (A : Option Addr) (c : Nat) (l : List Int) (hC : Kd.C (Kd.int .u8) w A l.length l) (hlc : l.length ≤ c) (hl : (l.length : Int) = sz) (hb : Bs l) :
    Calls Try.prog 71 #[.pointer (some ⟨g, 0, none⟩), .slice A l.length c] w fun e w' => e = .returned (.int .i64 (if nb l ≤ 8 * (sz - 4) then nb l else -1)) ∧ ∃ n, w' = w.drewN n := by
  obtain ⟨c1, r, s0, h0, g0, g1, g2, hc1⟩ := h.cells
  have hsz := h.szs
  have hnb := nb_bounds hb
  have hN := Lib.hid (Num_ w A c l hC hb (by omega) (by omega))
  have b0 : ((l.length : Int) != sz) = false := by simpa using hl
  have h4c : 4 ≤ c := by omega
  clear h h0 g1 g2 hc1 hC hb hlc
  generalize nb l = q at *
  generalize l.length = n at *
  subst hl
  obtain ⟨res, hres⟩ : ∃ res, res = if q ≤ 8 * ((n : Int) - 4) then q else -1 := ⟨_, rfl⟩
  rw [← hres]
  go_enter Try.func71, Try.ntmps71
  go_wp2_with fail
  refine hN.out.mono ?_
  rintro e w1 ⟨rfl, k, rfl⟩
  have b1 : IntKind.u64.wrap (wrap64 (8 * wrap64 ((n : Int) - 4))) = 8 * ((n : Int) - 4) := by rw [IntKind.wrap_u64]; unfold wrap64; omega
  by_cases hq : q ≤ 8 * ((n : Int) - 4)
  · rw [if_pos hq] at hres
    subst hres
    go_wp2
    go_ret
    exact ⟨rfl, ⟨_, rfl⟩⟩
  · rw [if_neg hq] at hres
    subst hres
    go_wp2
    go_ret
    exact ⟨rfl, ⟨_, rfl⟩⟩
/-- The slots where they were, the nodes of old where they were. -/
structure Grown (N N' : Nodes) : Prop where
  slot : ∀ q, slotOf N' q = slotOf N q
  old : ∀ q v, N q = some v → N' q = some v
theorem Grown.refl (N : Nodes) : Grown N N := ⟨fun _ => rfl, fun _ _ h => h⟩
theorem Grown.trans {N N' N'' : Nodes} (h : Grown N N') (k : Grown N' N'') : Grown N N'' := ⟨fun q => (k.slot q).trans (h.slot q), fun q v e => k.old q v (h.old q v e)⟩
abbrev newNode : Obj := .cells #[.pointer none, .pointer none, .int .i64 (-1)] 114
theorem PIxP.grow (h : PIxP P w F g gk sz ks N) {p : List Int} {b : Nat} {s x : Int} (e : N p = some (b, s)) (hx : x = 0 ∨ x = 1) (hn : N (p ++ [x]) = none) :
    ∃ N' F', PIxP P ((w.alloc newNode).setCell ⟨b, x.toNat, none⟩ (.pointer (some ⟨w.heap.size, 0, none⟩))) F' g gk sz ks N' ∧ Step w ((w.alloc newNode).setCell ⟨b, x.toNat, none⟩ (.pointer (some ⟨w.heap.size, 0, none⟩))) F F' ∧ Grown N N' ∧ N' (p ++ [x]) = some (w.heap.size, -1) := by
  have hT := h.tree.grow h.lt e hx hn (w1 := w.alloc newNode) (fun b hb => Below.heap_alloc w _ b hb) (heap_alloc_new w _)
  obtain ⟨hFb, hb⟩ := h.tree.at_ p b s e
  have hS : ∀ q, slotOf (upd N (p ++ [x]) (w.heap.size, -1)) q = slotOf N q := fun q => slot_grow hn q
  refine ⟨_, _, h.nodes (fun b hb => .inl hb) (fun b' t cs hb' ht => ?_) hT (fun r s' hr => ?_) ?_ (fun b' hb' => ?_), ?_, ⟨hS, fun q v hq => ?_⟩, upd_same _ _ _⟩
  · exact (Below.heap_setCell _ _ _ b' (blk_ne hb' hb ht)).trans (Below.heap_alloc w _ b' (blk_lt hb'))
  · exact ⟨s', by rw [upd_ne (by simp)]; exact hr⟩
  · rw [show slotOf (upd N (p ++ [x]) (w.heap.size, -1)) = slotOf N from funext hS]
    exact h.slots
  · rcases hb' with hb' | rfl
    · have := h.lt b' hb'; simp [World.setCell]; omega
    · simp [World.setCell]
  · exact (((Step.refl w F).alloc newNode).setCell (p := ⟨b, x.toNat, none⟩) (.inl hFb) _).to (fun b' hb' => hb'.imp id (fun e => by omega))
  · rw [upd_ne (by rintro rfl; rw [hn] at hq; cases hq)]; exact hq
theorem at_ (h : PIxP P w F g gk sz ks N) (A : Option Addr) (c : Nat) (l : List Int) (hC : Kd.C (Kd.int .u8) w A l.length l) (hlc : l.length ≤ c) (hin : InOk sz l) (hA : ∀ ad, A = some ad → 0 < l.length → ¬ F ad.block) :
    Calls Try.prog 72 #[.pointer (some ⟨g, 0, none⟩), .slice A l.length c, .int .i64 (nb l)] w fun e w' => ∃ (b : Nat) (N' : Nodes) (F' : Nat → Prop), e = .returned (.pointer (some ⟨b, 0, none⟩)) ∧ N' (path l) = some (b, slotOf N (path l)) ∧ Grown N N' ∧ PIxP P w' F' g gk sz ks N' ∧ Step w w' F F' := by
  have H := Lib.hid h
  have HIN := Lib.hid hin
  have HC := Lib.hid hC; have HA := Lib.hid hA
  have hsz := h.szs
  have hnb := nb_bounds hin.2.1
  have hnl := hin.2.2
  obtain ⟨m, hm⟩ : ∃ m : Nat, nb l = (m : Int) := ⟨(nb l).toNat, by omega⟩
  have HM : Hid (m = (nb l).toNat) := Lib.hid (by omega)
  rw [hm] at hnl ⊢
  obtain ⟨c1, r, s0, h0, g0, g1, g2, hc1⟩ := h.cells
  have HR : Hid (∃ N' F', PIxP P w F' g gk sz ks N' ∧ Step w w F F' ∧ Grown N N' ∧ ∃ s, N' ((path l).take 0) = some (r, s)) := Lib.hid ⟨N, F, h, Step.refl _ _, Grown.refl _, s0, h0⟩
  have hl1 := hin.1
  obtain ⟨nl, hnl2⟩ : ∃ n, n = l.length := ⟨_, rfl⟩
  have HNL := Lib.hid hnl2
  rw [← hnl2] at hlc hl1 ⊢
  clear h h0 g0 g2 hc1 hC hA hin hm hnb hnl2
  go_enter Try.func72, Try.ntmps72
  go_wp2
  go_loopw [7, 15] (fun p i wr => ∃ (k b : Nat), k ≤ m ∧ p = .pointer (some ⟨b, 0, none⟩) ∧ i = .int .i64 (k : Int) ∧ Hid (∃ N' F', PIxP P wr F' g gk sz ks N' ∧ Step w wr F F' ∧ Grown N N' ∧ ∃ s, N' ((path l).take k) = some (b, s))) (fun _ i _ => m - (intOf i).toNat)
  case atStart => exact ⟨0, r, Nat.zero_le _, rfl, rfl, HR⟩
  case round =>
    clear HR
    obtain ⟨k, b, hk, rfl, rfl, HR⟩ := hrel
    obtain ⟨N1, F1, hP1, hS1, hG1, s1, hN1⟩ := HR.out
    have HP1 := Lib.hid hP1; have HS1 := Lib.hid hS1; have HG1 := Lib.hid hG1; have HN1 := Lib.hid hN1
    clear HR hP1 hS1 hG1 hN1
    by_cases hlt : k < m
    · have hki : 4 + k / 8 < l.length := by rw [← HNL.out]; omega
      have HB := Lib.hid (fun q => bit_ (wr.drewN q) A c l (Kd.C_drewN (Cu8_step HC.out HS1.out HA.out) q) (by rw [← HNL.out]; exact hlc) HIN.out.2.1 k hki (by rw [← HNL.out]; omega))
      rw [← HNL.out] at HB
      clear hki
      have htk : Hid ((path l).take (k + 1) = (path l).take k ++ [LpmB.bt l k]) := Lib.hid (by rw [List.take_add_one, path_get (by have := HM.out; omega)]; rfl)
      have hbt := bt_or l k
      generalize LpmB.bt l k = x at *
      have g2 := (HP1.out.drewN (1)).tree.kid HN1.out hbt
      have g3 : ∀ n, (wr.drewN n).cell? ⟨b, x.toNat, none⟩ = some (ptr (N1 ((path l).take k ++ [x]))) := fun n => (HP1.out.tree.kid HN1.out hbt)
      have g4 := (HP1.out.tree.cells HN1.out).2.2.2 x.toNat
      clear g2
      cases hn : N1 ((path l).take k ++ [x]) with
      | some v =>
        obtain ⟨b2, s2⟩ := v
        rw [hn] at g3
        simp only [ptr] at g3
        have HR2 : Hid (∃ N' F', PIxP P (wr) F' g gk sz ks N' ∧ Step w (wr) F F' ∧ Grown N N' ∧ ∃ s, N' ((path l).take (k + 1)) = some (b2, s)) := Lib.hid ⟨N1, F1, HP1.out, HS1.out, HG1.out, s2, by rw [htk.out]; exact hn⟩
        clear hn
        go_wp2_with fail
        go_region_with (go_at_call 75; refine ((HB.out _).mono ?_); rintro e w2 ⟨rfl, n2, rfl⟩)
        have g5 := g3 (1 + n2)
        clear g3
        go_wp2
        go_roundw
        case rel => exact ⟨k + 1, b2, by omega, rfl, by go_num, Lib.hid (by obtain ⟨N', F', h1, h2, h3, h4⟩ := HR2.out; exact ⟨N', F', h1.drewN _, h2.drewN _, h3, h4⟩)⟩
        case measure => simp [intOf]; omega
      | none =>
        rw [hn] at g3
        simp only [ptr] at g3
        go_wp2_with fail
        go_region_with (go_at_call 75; refine ((HB.out _).mono ?_); rintro e w2 ⟨rfl, n2, rfl⟩)
        have g5 := g3 (1 + n2)
        have HG := Lib.hid (PIxP.grow (HP1.out.drewN (1 + n2)) HN1.out hbt hn)
        have ga : ∀ o, ((wr.drewN (1 + n2)).alloc o).cell? ⟨b, x.toNat, none⟩ = some (.pointer none) := fun o => old (below_alloc (Below.refl _ _) o) g5
        have gf : ∀ o, ((wr.drewN (1 + n2)).alloc o).frozen? ⟨b, x.toNat, none⟩ = false := fun o => (World.frozen?_of_block (w := wr) (a := ⟨b, x.toNat, none⟩) (Below.heap_alloc (wr.drewN (1 + n2)) o b (HP1.out.lt b (HP1.out.tree.at_ _ _ _ HN1.out).1))).trans g4
        clear g3
        go_wp2
        go_roundw
        case rel =>
          refine ⟨k + 1, wr.heap.size, by omega, rfl, by go_num, Lib.hid ?_⟩
          obtain ⟨N', F', h1, h2, h3, h4⟩ := HG.out
          exact ⟨N', F', h1, (HS1.out.drewN (1 + n2)).trans h2, HG1.out.trans h3, -1, by rw [htk.out]; exact h4⟩
        case measure => simp [intOf]; omega
    · obtain rfl : k = m := by omega
      have hfin : Hid ((path l).take k = path l) := Lib.hid (List.take_of_length_le (by rw [path_len, ← HM.out]; exact Nat.le_refl _))
      rw [hfin.out] at HN1
      go_wp2
      go_ret
      exact ⟨b, N1, F1, rfl, by rw [← HG1.out.slot, slotOf_some HN1.out]; exact HN1.out, HG1.out, HP1.out, HS1.out⟩
end
theorem row_of_owns {w : World} {B e n : Nat} {v : Value} {xs : List Value} (h : w.ownsRow B e 1 v n xs) (hn : v ≠ .slice none 0 0) : ∃ b c, v = .slice (some ⟨b, 0, none⟩) n c ∧ n ≤ c ∧ B ≤ b ∧ Row w b e xs := by
  rcases h.2 with ⟨h0, _⟩ | ⟨b, cap, cur, e, hB, hb, h1, h2, h3, h4⟩
  · exact absurd h0 hn
  · rw [Nat.mul_one] at h4
    exact ⟨b, cap, e, h1, hB, cur.toList.drop n, by rw [hb, ← h4, List.take_append_drop]⟩
theorem clone_ (w : World) (A : Option Addr) (c : Nat) (l : List Int) (hC : Kd.C (Kd.int .u8) w A l.length l) (h0 : 0 < l.length) (hl : l.length ≤ 100) :
    Calls Try.prog 74 #[.slice A l.length c] w fun e w' => ∃ b c', e = .returned (.slice (some ⟨b, 0, none⟩) l.length c') ∧ l.length ≤ c' ∧ w.heap.size ≤ b ∧ Row w' b 5 (l.map (Value.int .u8)) ∧ Below w.heap.size w w' := by
  obtain ⟨ad, rfl, _⟩ := byte_is hC 0 h0
  refine (Try.bytes_Clone_at ad l.length c l w rfl (by omega) (fun i hi => ?_)).mono ?_
  · obtain ⟨ad', e, h⟩ := byte_is hC i hi
    cases e
    exact h
  · rintro e w' ⟨v', rfl, ho, hn, hB⟩
    obtain ⟨b, c', rfl, h1, h2, h3⟩ := row_of_owns ho hn
    exact ⟨b, c', rfl, h1, h2, h3, hB⟩
/-- The key, its bits from n on cut up to k. -/
structure CutTo (l o : List Int) (k : Nat) : Prop where
  len : o.length = l.length
  bs : Bs o
  t4 : o.take 4 = l.take 4
  bits : ∀ q, q < 8 * (l.length - 4) → LpmB.bt o q = if nb l ≤ (q : Int) ∧ q < k then 0 else LpmB.bt l q
theorem sh_val (k : Nat) : IntKind.u64.wrap (wrap64 (7 - (k : Int).tmod 8)) = ((7 - k % 8 : Nat) : Int) := by
  rw [Int.tmod_eq_emod_of_nonneg (by omega), IntKind.wrap_u64]; unfold wrap64; omega
theorem ix_val (k : Nat) (h : k < 10000) : wrap64 (4 + wrap64 ((k : Int).tdiv 8)) = ((4 + k / 8 : Nat) : Int) := by
  rw [Int.tdiv_eq_ediv_of_nonneg (by omega)]; unfold wrap64; omega
theorem not_all : ∀ (v : Fin 256) (m t : Fin 8), (decide (0 ≤ Go.bits .andNot .u8 (v.val : Int) (2 ^ m.val % 256)) && decide (Go.bits .andNot .u8 (v.val : Int) (2 ^ m.val % 256) ≤ 255) && decide (bitb (Go.bits .andNot .u8 (v.val : Int) (2 ^ m.val % 256)) t.val = if t.val = m.val then 0 else bitb (v.val : Int) t.val)) = true := by decide +kernel
theorem not_val (y : Int) (h0 : 0 ≤ y) (h1 : y ≤ 255) (m : Nat) (hm : m < 8) : (0 ≤ Go.bits .andNot .u8 y (2 ^ m % 256) ∧ Go.bits .andNot .u8 y (2 ^ m % 256) ≤ 255) ∧ ∀ t, t < 8 → bitb (Go.bits .andNot .u8 y (2 ^ m % 256)) t = if t = m then 0 else bitb y t := by
  obtain ⟨v, rfl⟩ := Int.eq_ofNat_of_zero_le h0
  have h := fun t ht => not_all ⟨v, by omega⟩ ⟨m, hm⟩ ⟨t, ht⟩
  simp only [Bool.and_eq_true, decide_eq_true_eq] at h
  exact ⟨(h 0 (by omega)).1, fun t ht => (h t ht).2⟩
theorem CutTo.step {l o : List Int} {k : Nat} (h : CutTo l o k) (hl : 4 ≤ l.length) (hk : k < 8 * (l.length - 4)) (hn : nb l ≤ (k : Int)) {y : Int} (hy : o[4 + k / 8]? = some y) : CutTo l (o.set (4 + k / 8) (Go.bits .andNot .u8 y (2 ^ (7 - k % 8) % 256))) (k + 1) := by
  have hyb := h.bs y (List.mem_of_getElem? hy)
  obtain ⟨hz, hzb⟩ := not_val y hyb.1 hyb.2 (7 - k % 8) (by omega)
  have hlen := h.len
  have hjl : 4 + k / 8 < o.length := by omega
  refine ⟨by rw [List.length_set]; exact h.len, fun x hx => (List.mem_or_eq_of_mem_set hx).elim (h.bs x) (fun e => e ▸ hz), by rw [List.take_set_of_le (by omega)]; exact h.t4, fun q hq => ?_⟩
  have hbq := h.bits q hq
  unfold LpmB.bt at hbq ⊢
  by_cases e : 4 + q / 8 = 4 + k / 8
  · rw [e, List.getD_eq_getElem?_getD, List.getElem?_set_self hjl, Option.getD_some, hzb (7 - q % 8) (by omega)]
    rw [e, List.getD_eq_getElem?_getD, hy, Option.getD_some] at hbq
    by_cases e2 : q = k
    · subst e2
      rw [if_pos rfl, if_pos ⟨hn, by omega⟩]
    · rw [if_neg (by omega), hbq]
      by_cases e3 : nb l ≤ (q : Int) ∧ q < k
      · rw [if_pos e3, if_pos ⟨e3.1, by omega⟩]
      · rw [if_neg e3, if_neg (by omega)]
  · rw [List.getD_eq_getElem?_getD, List.getElem?_set_ne (fun h => e h.symm), ← List.getD_eq_getElem?_getD, hbq]
    by_cases e3 : nb l ≤ (q : Int) ∧ q < k
    · rw [if_pos e3, if_pos ⟨e3.1, by omega⟩]
    · rw [if_neg e3, if_neg (fun h2 => e3 ⟨h2.1, by have := h2.2; omega⟩)]
theorem form_ (w : World) (A : Option Addr) (c : Nat) (l : List Int) {sz : Int} (hC : Kd.C (Kd.int .u8) w A l.length l) (hlc : l.length ≤ c) (hin : InOk sz l) (hsz : 5 ≤ sz ∧ sz ≤ 16) :
    Calls Try.prog 73 #[.slice A l.length c, .int .i64 (nb l)] w fun e w' => ∃ b c', e = .returned (.slice (some ⟨b, 0, none⟩) l.length c') ∧ l.length ≤ c' ∧ w.heap.size ≤ b ∧ Row w' b 5 ((cut l).map (Value.int .u8)) ∧ Below w.heap.size w w' := by
  have HIN := Lib.hid hin
  have hl1 := hin.1
  have HC := Lib.hid (clone_ w A c l hC (by omega) (by omega))
  obtain ⟨m, hm⟩ : ∃ m : Nat, nb l = (m : Int) := ⟨(nb l).toNat, by have := nb_bounds hin.2.1; omega⟩
  have hm8 : (m : Int) ≤ 8 * (sz - 4) := by rw [← hm]; exact hin.2.2
  have HM := Lib.hid hm
  rw [hm]
  obtain ⟨nl, hnl2⟩ : ∃ n, n = l.length := ⟨_, rfl⟩
  have HNL := Lib.hid hnl2
  rw [← hnl2] at hlc hl1 HC ⊢
  clear hC hin hm hnl2
  go_enter Try.func73, Try.ntmps73
  go_wp2_with fail
  refine HC.out.mono ?_
  rintro e w1 ⟨b, c1, rfl, hc1, hb, hrow, hB⟩
  have HB := Lib.hid hb; have HROW := Lib.hid hrow; have HBL := Lib.hid hB
  clear hb hrow hB HC
  have HC0 : Hid (∃ o, CutTo l o m ∧ Row w1 b 5 (o.map (Value.int .u8))) := Lib.hid ⟨l, ⟨rfl, HIN.out.2.1, rfl, fun q _ => by rw [if_neg (by rw [HM.out]; omega)]⟩, HROW.out⟩
  obtain ⟨q, hq⟩ : ∃ q : Nat, q = 8 * (nl - 4) := ⟨_, rfl⟩
  have hqw : wrap64 (8 * wrap64 ((nl : Int) - 4)) = (q : Int) := by unfold wrap64; omega
  have hmq : m ≤ q := by omega
  have HQ := Lib.hid hq
  clear hm8 hq HROW
  go_wp2
  go_loopw [6] (fun i wr => ∃ (k : Nat) (x : Int), m ≤ k ∧ k ≤ q ∧ i = .int .i64 x ∧ Hid (x = (k : Int)) ∧ Hid (∃ o, CutTo l o k ∧ Row wr b 5 (o.map (Value.int .u8))) ∧ Hid (Below w.heap.size w wr)) (fun i _ => q - (intOf i).toNat)
  case atStart => exact ⟨m, _, Nat.le_refl _, hmq, rfl, Lib.hid rfl, HC0, HBL⟩
  case round =>
    clear HC0 HBL
    obtain ⟨k, x, hmk, hkq, rfl, HX, HO, HBL⟩ := hrel
    obtain ⟨o, ho, hrow⟩ := HO.out
    have HO2 := Lib.hid ho; have HROW := Lib.hid hrow
    have hol := ho.len
    have hq2 : (q : Int) = 8 * (sz - 4) := by have := HQ.out; omega
    by_cases hlt : x < 8 * (sz - 4)
    · have hki : 4 + k / 8 < nl := by have := HX.out; have := HQ.out; omega
      obtain ⟨y, hy⟩ : ∃ y, o[4 + k / 8]? = some y := ⟨_, List.getElem?_eq_getElem (by rw [hol, ← HNL.out]; exact hki)⟩
      obtain ⟨ji, hji⟩ : ∃ j, wrap64 (4 + wrap64 (x.tdiv 8)) = j := ⟨_, rfl⟩
      have hjiw : IntKind.i64.wrap (4 + wrap64 (x.tdiv 8)) = ji := (i64_w _).trans hji
      have hjv : ji = ((4 + k / 8 : Nat) : Int) := by rw [← hji, HX.out]; exact ix_val k (by have := HQ.out; omega)
      have hj0 : 0 ≤ ji := by omega
      have hj1 : ji < (nl : Int) := by omega
      have hjb : 0 ≤ ji ∧ ji < (nl : Int) := ⟨hj0, hj1⟩
      have gc : wr.cell? ⟨b, ji.toNat, none⟩ = some (.int .u8 y) := by
        obtain ⟨hl, he⟩ := List.getElem?_eq_some_iff.1 hy
        rw [hjv, Int.toNat_natCast, hrow.cell (4 + k / 8) (by rw [List.length_map]; exact hl), List.getElem_map, he]
      have gf := hrow.frozen ji.toNat
      obtain ⟨mi, hmi⟩ : ∃ j, IntKind.u64.wrap (wrap64 (7 - x.tmod 8)) = j := ⟨_, rfl⟩
      have hmv : mi = ((7 - k % 8 : Nat) : Int) := by rw [← hmi, HX.out]; exact sh_val k
      have hm0 : 0 ≤ mi := by omega
      obtain ⟨si, hsi⟩ : ∃ j, shl .u8 1 mi = j := ⟨_, rfl⟩
      have HY := Lib.hid hy; have HJV := Lib.hid hjv; have HMV := Lib.hid hmv; have HSI := Lib.hid hsi
      have HQ2 := Lib.hid hq2
      clear hy hjv hmv ho hrow HO hol hki hq2
      go_wp2
      go_roundw
      case rel =>
        have hlt2 : k < 8 * (l.length - 4) := by rw [← HNL.out, ← HQ.out]; have := HX.out; have := HQ2.out; omega
        refine ⟨k + 1, _, by omega, by have := HX.out; have := HQ2.out; omega, rfl, Lib.hid (by have := HX.out; have := HQ.out; unfold wrap64; omega), Lib.hid ⟨_, HO2.out.step (by rw [← HNL.out]; omega) hlt2 (by rw [HM.out]; omega) HY.out, ?_⟩, Lib.hid (HBL.out.setCell HB.out _)⟩
        have := HROW.out.set_ (4 + k / 8) (by rw [List.length_map]; exact (List.getElem?_eq_some_iff.1 HY.out).1) (.int .u8 (Go.bits .andNot .u8 y (2 ^ (7 - k % 8) % 256)))
        rw [← List.map_set] at this
        rw [HJV.out, HMV.out, Int.toNat_natCast, Int.toNat_natCast, Nat.min_eq_left (by omega)]
        exact this
      case measure =>
        have := HX.out
        have hx : wrap64 (x + 1) = x + 1 := by have := HQ.out; unfold wrap64; omega
        have := HQ2.out
        simp only [intOf, hx]
        omega
    · have hkq2 : k = q := by have := HX.out; omega
      have hfin : Hid (o = cut l) := Lib.hid (cut_of (by rw [← HNL.out]; omega) HIN.out.2.1 ho.len ho.bs ho.t4 (fun i hi => by
        rw [ho.bits i hi]
        unfold LpmB.mk
        by_cases h : nb l ≤ (i : Int)
        · rw [if_pos ⟨h, by rw [hkq2, HQ.out, HNL.out]; exact hi⟩, if_neg (by omega)]
        · rw [if_neg (fun h2 => h h2.1), if_pos (by omega)]))
      clear ho hrow hol hq2
      go_wp2
      go_ret
      exact ⟨b, c1, rfl, hc1, HB.out, by rw [← hfin.out]; exact HROW.out, HBL.out⟩
end Go.Proofs.Ytfbajampfiodeaa.LpmW
