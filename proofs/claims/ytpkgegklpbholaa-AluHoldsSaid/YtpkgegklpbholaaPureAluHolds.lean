/- PROVED HERE: for every condition's number and all numbers a, b of 64 bits, 'Holds' answers as the document's definition does, over 64 and over 32 bits. No condition but the kinds of the numbers. -/
import Derived.Test.YtpkgegklpbholaaPAluHoldsx2
import Derived.Test.YtpkgegklpbholaaNum
namespace Go.Proofs.Ytpkgegklpbholaa.Pure
open Go.RowKit Go.Proofs.Ytpkgegklpbholaa.PAluHolds Go.Proofs.YtpkgegklpbholaaW.PrintWords Go.Proofs.YtpkgegklpbholaaW.PrintLast Go.Proofs.YtpkgegklpbholaaW.PrintMore
open Go.Proofs.Ytpkgegklpbholaa.Num

namespace AluHoldsParts
theorem pow_l0 (n : Nat) : ∀ (k m : Nat), n < k → n < 18446744073709551616 → m < 18446744073709551616 → posternref05_pow.l0 k (n : Int) (m : Int) = some ((m * 2 ^ n % 18446744073709551616 : Nat) : Int) := by
  induction n with
  | zero =>
    intro k m hk _ hm
    obtain ⟨k, rfl⟩ : ∃ q, k = q + 1 := ⟨k - 1, by omega⟩
    simp only [posternref05_pow.l0]; rw [if_neg (by omega), Nat.pow_zero, Nat.mul_one, Nat.mod_eq_of_lt hm]
  | succ n ih =>
    intro k m hk hn hm
    obtain ⟨k, rfl⟩ : ∃ q, k = q + 1 := ⟨k - 1, by omega⟩
    simp only [posternref05_pow.l0]; rw [if_pos (by omega), IntKind.wrap_u64, IntKind.wrap_u64]
    rw [show (((n + 1 : Nat) : Int) - 1) % 18446744073709551616 = (n : Int) by omega, show ((m : Int) * 2) % 18446744073709551616 = ((m * 2 % 18446744073709551616 : Nat) : Int) by omega]
    rw [ih k _ (by omega) (by omega) (by omega)]
    congr 2
    rw [Nat.mul_mod, Nat.mod_mod, ← Nat.mul_mod, Nat.pow_succ, Nat.mul_assoc, Nat.mul_comm 2]
theorem pow_f (n k : Nat) (hk : n < k) (hn : n < 64) : posternref05_pow.f k (n : Int) = some ((2 ^ n : Nat) : Int) := by
  unfold posternref05_pow.f
  have := pow_l0 n k 1 hk (by omega) (by omega)
  rw [Nat.one_mul, Nat.mod_eq_of_lt (Nat.pow_lt_pow_right (a := 2) (by decide) (show n < 64 from hn))] at this
  exact this

theorem j_agree (m n : Nat) (x0 A B la lb x y : Int) (h16 : (A == B) = (la == lb)) (h80 : (A != B) = (la != lb)) (h32 : decide (A > B) = decide (la > lb)) (h48 : decide (A ≥ B) = decide (la ≥ lb))
    (h160 : decide (A < B) = decide (la < lb)) (h176 : decide (A ≤ B) = decide (la ≤ lb)) (h96 : decide (wrap64 A > wrap64 B) = decide (x > y)) (h112 : decide (wrap64 A ≥ wrap64 B) = decide (x ≥ y))
    (h192 : decide (wrap64 A < wrap64 B) = decide (x < y)) (h208 : decide (wrap64 A ≤ wrap64 B) = decide (x ≤ y)) (h64 : (Go.bits .and .u64 A B != 0) = decide (Go.bits .and .u64 la lb > 0)) :
    ∃ c e ok, alu_Holds.j0 (m + 1) x0 A B = some (c, e) ∧ posternref05_Holds.j1 (n + 1) x0 la lb x y = some (c, ok) ∧ ok = (e == 0) ∧ (ok = false → e = 2) := by
  simp only [alu_Holds.j0, posternref05_Holds.j1]
  by_cases c1 : x0 = 16
  · subst c1; exact ⟨A == B, 0, true, by simp, by simp [h16], by decide, by simp⟩
  by_cases c2 : x0 = 32
  · subst c2; exact ⟨decide (A > B), 0, true, by simp, by rw [h32]; simp, by decide, by simp⟩
  by_cases c3 : x0 = 48
  · subst c3; exact ⟨decide (A ≥ B), 0, true, by simp, by rw [h48]; simp, by decide, by simp⟩
  by_cases c4 : x0 = 64
  · subst c4; exact ⟨Go.bits .and .u64 A B != 0, 0, true, by simp, by rw [h64]; simp, by decide, by simp⟩
  by_cases c5 : x0 = 80
  · subst c5; exact ⟨A != B, 0, true, by simp, by rw [h80]; simp, by decide, by simp⟩
  by_cases c6 : x0 = 96
  · subst c6; exact ⟨decide (wrap64 A > wrap64 B), 0, true, by simp, by rw [h96]; simp, by decide, by simp⟩
  by_cases c7 : x0 = 112
  · subst c7; exact ⟨decide (wrap64 A ≥ wrap64 B), 0, true, by simp, by rw [h112]; simp, by decide, by simp⟩
  by_cases c8 : x0 = 160
  · subst c8; exact ⟨decide (A < B), 0, true, by simp, by rw [h160]; simp, by decide, by simp⟩
  by_cases c9 : x0 = 176
  · subst c9; exact ⟨decide (A ≤ B), 0, true, by simp, by rw [h176]; simp, by decide, by simp⟩
  by_cases c10 : x0 = 192
  · subst c10; exact ⟨decide (wrap64 A < wrap64 B), 0, true, by simp, by rw [h192]; simp, by decide, by simp⟩
  by_cases c11 : x0 = 208
  · subst c11; exact ⟨decide (wrap64 A ≤ wrap64 B), 0, true, by simp, by rw [h208]; simp, by decide, by simp⟩
  exact ⟨false, 2, false, by simp [c1, c2, c3, c4, c5, c6, c7, c8, c9, c10, c11], by simp [c1, c2, c3, c4, c5, c6, c7, c8, c9, c10, c11], by decide, by simp⟩

theorem agree64 (k : Nat) (hk : 70 ≤ k) (x0 : Int) (a b : Nat) (ha : a < 18446744073709551616) (hb : b < 18446744073709551616) :
    ∃ c e ok, alu_Holds.f k x0 true (a : Int) (b : Int) = some (c, e) ∧ posternref05_Holds.f k x0 64 (a : Int) (b : Int) = some (c, ok) ∧ ok = (e == 0) ∧ (ok = false → e = 2) := by
  obtain ⟨k, rfl⟩ : ∃ m, k = m + 2 := ⟨k - 2, by omega⟩
  unfold alu_Holds.f posternref05_Holds.f
  rw [if_pos rfl, if_neg (by decide)]
  simp only [posternref05_Holds.j0]
  rw [show IntKind.u64.wrap (wrap64 (64 - 1)) = ((63 : Nat) : Int) by decide +kernel, pow_f 63 (k + 1) (by omega) (by omega)]
  simp only [Option.bind_some]
  rw [if_neg (by decide), IntKind.wrap_u64, IntKind.wrap_u64]
  have e1 : ((2 ^ 63 : Nat) : Int) = 9223372036854775808 := by decide
  rw [e1]
  refine j_agree (k + 1) k x0 _ _ _ _ _ _ rfl rfl rfl rfl rfl rfl ?_ ?_ ?_ ?_ ?_
  · rw [decide_eq_decide]; unfold wrap64; omega
  · rw [decide_eq_decide]; unfold wrap64; omega
  · rw [decide_eq_decide]; unfold wrap64; omega
  · rw [decide_eq_decide]; unfold wrap64; omega
  · rw [and_nat ha hb, Bool.eq_iff_iff, bne_iff_ne, decide_eq_true_iff]; omega

theorem sx (c : Int) (d : Nat) (h : c % 4294967296 = (d : Int)) : ∃ e : Nat, IntKind.u64.wrap (wrap64 (wrap32 (c % 4294967296))) = (e : Int) ∧ (d < 2147483648 → e = d) ∧ (2147483648 ≤ d → e = d + 18446744069414584320) := by
  rw [h, IntKind.wrap_u64]
  refine ⟨((wrap64 (wrap32 (d : Int))) % 18446744073709551616).toNat, ?_, ?_, ?_⟩
  · omega
  · intro h1; unfold wrap64 wrap32; omega
  · intro h1; unfold wrap64 wrap32; omega
theorem and_ext (a b a' b' : Nat) (ha : a < 4294967296) (hb : b < 4294967296) (ea : a < 2147483648 → a' = a) (ea' : 2147483648 ≤ a → a' = a + 18446744069414584320) (eb : b < 2147483648 → b' = b) (eb' : 2147483648 ≤ b → b' = b + 18446744069414584320) :
    (a' &&& b' = 0) ↔ (a &&& b = 0) := by
  have hlow : (a' &&& b') % 4294967296 = a &&& b := by
    have e := and_mod a' b' 32
    rw [show 2 ^ 32 = 4294967296 by decide] at e
    rw [e]
    have h1 : a' % 4294967296 = a := by omega
    have h2 : b' % 4294967296 = b := by omega
    rw [h1, h2]
  constructor
  · intro h; rw [h] at hlow; omega
  · intro h
    by_cases c1 : a < 2147483648
    · have : a' &&& b' ≤ a' := Nat.and_le_left
      omega
    · by_cases c2 : b < 2147483648
      · have : a' &&& b' ≤ b' := Nat.and_le_right
        omega
      · exfalso
        have t : (a &&& b).testBit 31 = true := by
          rw [Nat.testBit_and, Nat.testBit_eq_decide_div_mod_eq, Nat.testBit_eq_decide_div_mod_eq, Bool.and_eq_true, decide_eq_true_iff, decide_eq_true_iff]
          rw [show 2 ^ 31 = 2147483648 by decide]; omega
        rw [h] at t; simp at t

theorem agree32 (k : Nat) (hk : 70 ≤ k) (x0 : Int) (a b : Nat) (ha : a < 18446744073709551616) (hb : b < 18446744073709551616) :
    ∃ c e ok, alu_Holds.f k x0 false (a : Int) (b : Int) = some (c, e) ∧ posternref05_Holds.f k x0 32 (a : Int) (b : Int) = some (c, ok) ∧ ok = (e == 0) ∧ (ok = false → e = 2) := by
  obtain ⟨k, rfl⟩ : ∃ m, k = m + 2 := ⟨k - 2, by omega⟩
  unfold alu_Holds.f posternref05_Holds.f
  rw [if_neg (by decide), if_pos rfl]
  simp only [posternref05_Holds.j0]
  rw [show IntKind.u64.wrap (wrap64 (32 - 1)) = ((31 : Nat) : Int) by decide +kernel, pow_f 31 (k + 1) (by omega) (by omega)]
  simp only [Option.bind_some, if_true]
  have e1 : ((2 ^ 31 : Nat) : Int) = 2147483648 := by decide
  rw [e1]
  have la : Int.tmod (a : Int) 4294967296 = ((a % 4294967296 : Nat) : Int) := by rw [Int.tmod_eq_emod_of_nonneg (by omega)]; omega
  have lb : Int.tmod (b : Int) 4294967296 = ((b % 4294967296 : Nat) : Int) := by rw [Int.tmod_eq_emod_of_nonneg (by omega)]; omega
  rw [la, lb]
  have xa : ∀ c : Nat, c < 4294967296 → Int.tmod (IntKind.u64.wrap ((c : Int) + 2147483648)) 4294967296 = (((c + 2147483648) % 4294967296 : Nat) : Int) := fun c hc => by
    rw [IntKind.wrap_u64, Int.tmod_eq_emod_of_nonneg (by omega)]; omega
  rw [xa _ (by omega), xa _ (by omega)]
  obtain ⟨p, hp, hp1⟩ : ∃ p : Nat, p = a % 4294967296 ∧ p < 4294967296 := ⟨_, rfl, by omega⟩
  obtain ⟨q, hq, hq1⟩ : ∃ q : Nat, q = b % 4294967296 ∧ q < 4294967296 := ⟨_, rfl, by omega⟩
  rw [← hp, ← hq]
  obtain ⟨A, hA, hA1, hA2⟩ := sx (a : Int) p (by omega)
  obtain ⟨B, hB, hB1, hB2⟩ := sx (b : Int) q (by omega)
  rw [hA, hB]
  clear hA hB la lb xa hp hq
  have hA3 : A < 18446744073709551616 := by omega
  have hB3 : B < 18446744073709551616 := by omega
  have hAB := and_ext p q A B hp1 hq1 hA1 hA2 hB1 hB2
  refine j_agree (k + 1) k x0 _ _ _ _ _ _ ?_ ?_ ?_ ?_ ?_ ?_ ?_ ?_ ?_ ?_ ?_
  · rw [Bool.eq_iff_iff, beq_iff_eq, beq_iff_eq]; omega
  · rw [Bool.eq_iff_iff, bne_iff_ne, bne_iff_ne]; omega
  · rw [decide_eq_decide]; omega
  · rw [decide_eq_decide]; omega
  · rw [decide_eq_decide]; omega
  · rw [decide_eq_decide]; omega
  · rw [decide_eq_decide]; unfold wrap64; omega
  · rw [decide_eq_decide]; unfold wrap64; omega
  · rw [decide_eq_decide]; unfold wrap64; omega
  · rw [decide_eq_decide]; unfold wrap64; omega
  · rw [and_nat hA3 hB3, and_nat (by omega) (by omega), Bool.eq_iff_iff, bne_iff_ne, decide_eq_true_iff]
    omega
end AluHoldsParts
open AluHoldsParts

theorem first_true : posternlaw05_first.f 100 = some true := by decide +kernel

theorem AluHolds : posternlaw05_AluHolds.Pure := by
  intro a0 a1 a2 w0 w1 w2
  obtain ⟨a, rfl, ha⟩ := nat_of w1
  obtain ⟨b, rfl, hb⟩ := nat_of w2
  refine ⟨100, ?_⟩
  unfold posternlaw05_AluHolds.f
  rw [first_true]
  simp only [Option.bind_some, if_true]
  have step : ∀ (k : Nat) (i : Int) (hk : 70 ≤ k) (h0 : 0 ≤ i) (h2 : i < 2), posternlaw05_AluHolds.l0 (k + 1) a0 (a : Int) (b : Int) [true, false] (([true, false] : List Bool).length : Int) i = posternlaw05_AluHolds.l0 k a0 (a : Int) (b : Int) [true, false] (([true, false] : List Bool).length : Int) (i + 1) := by
    intro k i hk h0 h2
    have hi : i = 0 ∨ i = 1 := by omega
    rw [posternlaw05_AluHolds.l0]
    rcases hi with rfl | rfl
    · obtain ⟨c, e, ok, e1, e2, e3, e4⟩ := agree64 k hk a0 a b ha hb
      rw [if_pos (by decide), if_pos (by decide), if_pos (by decide), show rdOf false ([true, false] : List Bool) 0 = true from rfl, e1]
      simp only [posternlaw05_bits.f, Option.bind_some, if_true]
      rw [e2]
      simp only [Option.bind_some, bne_self_eq_false]
      rw [← e3]
      cases ok with
      | true => simp [wrap64]
      | false => rw [e4 rfl]; simp [wrap64]
    · obtain ⟨c, e, ok, e1, e2, e3, e4⟩ := agree32 k hk a0 a b ha hb
      rw [if_pos (by decide), if_pos (by decide), if_pos (by decide), show rdOf false ([true, false] : List Bool) 1 = false from rfl, e1]
      simp only [posternlaw05_bits.f, Option.bind_some]
      rw [if_neg (by decide)]
      simp only [Option.bind_some]
      rw [e2]
      simp only [Option.bind_some, bne_self_eq_false]
      rw [← e3]
      cases ok with
      | true => simp [wrap64]
      | false => rw [e4 rfl]; simp [wrap64]
  rw [step 99 0 (by omega) (by omega) (by omega), step 98 (0 + 1) (by omega) (by omega) (by omega)]
  rw [posternlaw05_AluHolds.l0, if_neg (by decide)]

end Go.Proofs.Ytpkgegklpbholaa.Pure
