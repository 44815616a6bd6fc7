/- PROVED HERE: for all numbers lo, hi, between of 64 bits: a range's tnum is tidy, holds lo, hi and a number between them, and is the best: it knows just the bits above the highest in which lo and hi differ. No condition but the kinds of the numbers. -/
import Derived.Test.YtladlljnpmpdpaaPTnumRangex5
import Derived.Test.YtladlljnpmpdpaaBv
import Derived.Test.YtladlljnpmpdpaaTn
import Derived.Lib.BitFns
namespace Go.Proofs.Ytladlljnpmpdpaa.Pure
open Go.RowKit Go.Proofs.Ytladlljnpmpdpaa.PTnumRange Go.Proofs.YtladlljnpmpdpaaW.PrintWords Go.Proofs.YtladlljnpmpdpaaW.PrintLast Go.Proofs.YtladlljnpmpdpaaW.PrintMore
open Go.Proofs.Ytladlljnpmpdpaa.Bv Go.Proofs.Ytladlljnpmpdpaa.Tn

namespace TnumRangeParts
theorem bitLenAux_spec (f : Nat) : ∀ x : Nat, x < 2 ^ f → Lib.bitLenAux f x ≤ f ∧ x < 2 ^ Lib.bitLenAux f x ∧ (0 < Lib.bitLenAux f x → 2 ^ (Lib.bitLenAux f x - 1) ≤ x) := by
  induction f with
  | zero => intro x hx; refine ⟨Nat.le_refl _, hx, fun h => absurd h (by simp [Lib.bitLenAux])⟩
  | succ f ih =>
    intro x hx
    unfold Lib.bitLenAux
    by_cases h : x = 0
    · rw [if_pos h]; subst h; simp
    · rw [if_neg h]
      rw [Nat.pow_succ] at hx
      obtain ⟨h1, h2, h3⟩ := ih (x / 2) (by omega)
      generalize Lib.bitLenAux f (x / 2) = n at *
      refine ⟨by omega, ?_, fun _ => ?_⟩
      · rw [Nat.add_comm, Nat.pow_succ]; omega
      · rw [show 1 + n - 1 = n by omega]
        by_cases hn : n = 0
        · subst hn; simp; omega
        · have := h3 (by omega)
          rw [show n = (n - 1) + 1 by omega, Nat.pow_succ]
          omega
theorem bitLen_spec (d : W) : ∃ n : Nat, Lib.bitLen d.toNat = n ∧ n ≤ 64 ∧ d.toNat < 2 ^ n ∧ (0 < n → 2 ^ (n - 1) ≤ d.toNat) := by
  obtain ⟨h1, h2, h3⟩ := bitLenAux_spec 64 d.toNat d.isLt
  exact ⟨_, rfl, h1, h2, h3⟩

/-- The lowest n bits. -/
def ones (n : Nat) : W := (1#64 <<< n) - 1#64
theorem ones_bit (n : Nat) (hn : n ≤ 64) (i : Nat) : (ones n).getLsbD i = decide (i < n) := by
  have e : (ones n).toNat = 2 ^ n - 1 := by
    unfold ones
    rw [BitVec.toNat_sub, BitVec.toNat_shiftLeft, Nat.shiftLeft_eq]
    have h1 : 0 < 2 ^ n := Nat.two_pow_pos n
    have h2 : 2 ^ n ≤ 2 ^ 64 := Nat.pow_le_pow_right (by decide) hn
    rw [show (1#64).toNat = 1 from rfl, Nat.one_mul]
    by_cases h : n = 64
    · subst h; decide
    · have h3 : 2 ^ n < 2 ^ 64 := Nat.pow_lt_pow_right (by decide) (by omega)
      rw [Nat.mod_eq_of_lt h3]
      omega
  rw [BitVec.getLsbD, e, Nat.testBit_two_pow_sub_one]
theorem f_ones (n : Nat) (hn : n ≤ 64) : IntKind.u64.wrap ((shl .u64 1 (n : Int)) - 1) = ((ones n).toNat : Int) := by
  have h := c_shl 1#64 n hn
  rw [show ((1#64).toNat : Int) = 1 from rfl] at h
  rw [h]
  have := c_sub (1#64 <<< n) 1#64
  rw [show ((1#64).toNat : Int) = 1 from rfl] at this
  exact this

/-- Above n all numbers from lo to hi agree. -/
theorem agree {a b v : Nat} {n : Nat} (hd : a ^^^ b < 2 ^ n) (h1 : a ≤ v) (h2 : v ≤ b) (i : Nat) (hi : n ≤ i) : v.testBit i = a.testBit i := by
  have e : a / 2 ^ n = b / 2 ^ n := by
    have h : (a ^^^ b) / 2 ^ n = 0 := Nat.div_eq_of_lt hd
    rw [Nat.xor_div_two_pow] at h
    generalize a / 2 ^ n = p at h
    generalize b / 2 ^ n = q at h
    have h2 : p ^^^ (p ^^^ q) = p ^^^ 0 := by rw [h]
    rw [← Nat.xor_assoc, Nat.xor_self, Nat.zero_xor, Nat.xor_zero] at h2
    exact h2.symm
  have e2 : v / 2 ^ n = a / 2 ^ n := by
    have p : a / 2 ^ n ≤ v / 2 ^ n := Nat.div_le_div_right h1
    have q : v / 2 ^ n ≤ b / 2 ^ n := Nat.div_le_div_right h2
    omega
  have t : ∀ z : Nat, z.testBit i = (z / 2 ^ n).testBit (i - n) := fun z => by
    rw [Nat.testBit_div_two_pow, show i - n + n = i by omega]
  rw [t v, t a, e2]

theorem f_has {v m x : W} (h : Mem v m x) : tnum_Has.f (v.toNat : Int) (m.toNat : Int) (x.toNat : Int) = some true := by
  simp only [tnum_Has.f, c_xor, c_andNot]
  have : (v ^^^ x) &&& ~~~m = 0#64 := eq_of_bits fun i hi => by
    rw [BitVec.getLsbD_and, BitVec.getLsbD_xor, not_bit hi, BitVec.getLsbD_zero]
    cases hm : m.getLsbD i with
    | true => simp
    | false => rw [h i hm]; simp
  rw [this]; rfl
theorem f_good {v m : W} (h : Tidy v m) : posternlaw14_good.f (v.toNat : Int) (m.toNat : Int) = some true := by
  simp only [posternlaw14_good.f, c_and]
  have : v &&& m = 0#64 := eq_of_bits fun i _ => by
    rw [BitVec.getLsbD_and, BitVec.getLsbD_zero]
    cases hm : m.getLsbD i with
    | false => simp
    | true => rw [h i hm]; rfl
  rw [this]; rfl

theorem mem_range {a b v : W} {n : Nat} (hn : n ≤ 64) (hd : (a ^^^ b).toNat < 2 ^ n) (h1 : a.toNat ≤ v.toNat) (h2 : v.toNat ≤ b.toNat) : Mem (a &&& ~~~(ones n)) (ones n) v := by
  refine mem_andNot.2 fun i hm => ?_
  by_cases hi : i < 64
  · rw [ones_bit n hn i] at hm
    rw [BitVec.toNat_xor] at hd
    exact agree hd h1 h2 i (by simpa using hm)
  · rw [BitVec.getLsbD_of_ge _ i (by omega), BitVec.getLsbD_of_ge _ i (by omega)]

theorem bit_test (d : W) (i : Nat) (hi : i < 64) : (Go.bits .and .u64 (shr .u64 (d.toNat : Int) (i : Int)) 1 = 1) ↔ d.toNat / 2 ^ i % 2 = 1 := by
  rw [c_shr d i (by omega)]
  have h := c_and (d >>> i) 1#64
  rw [show ((1#64).toNat : Int) = 1 from rfl] at h
  rw [h, BitVec.toNat_and, BitVec.toNat_ushiftRight, Nat.shiftRight_eq_div_pow, show (1#64).toNat = 1 from rfl, Nat.and_one_is_mod]
  omega

theorem wrap_i (i : Nat) (hi : i ≤ 64) : IntKind.u64.wrap (i : Int) = (i : Int) := by rw [IntKind.wrap_u64]; omega

/-- The law's own search for the highest bit. -/
theorem loop (a b : W) (n : Nat) (hn : n ≤ 64) (hd : (a ^^^ b).toNat < 2 ^ n) (hl : 0 < n → 2 ^ (n - 1) ≤ (a ^^^ b).toNat) (j : Nat) :
    ∀ k i : Nat, i + 1 = n + j → i < 64 → j < k → posternlaw14_TnumRange.l0 k (a.toNat : Int) (b.toNat : Int) 18446744073709551615 (i : Int) ((a &&& ~~~(ones n)).toNat : Int) ((ones n).toNat : Int) = some true := by
  induction j with
  | zero =>
    intro k i hi h64 hk
    obtain ⟨k, rfl⟩ : ∃ q, k = q + 1 := ⟨k - 1, by omega⟩
    have hb : (a ^^^ b).toNat / 2 ^ i % 2 = 1 := by
      have h := hl (by omega)
      rw [show n - 1 = i by omega] at h
      rw [show n = i + 1 by omega, Nat.pow_succ] at hd
      have hp : 0 < 2 ^ i := Nat.two_pow_pos i
      have : (a ^^^ b).toNat / 2 ^ i = 1 := by
        rw [Nat.div_eq_iff hp]; omega
      rw [this]
    simp only [posternlaw14_TnumRange.l0]
    rw [if_pos (by omega), wrap_i i (by omega), if_pos (by omega), c_xor, if_pos ((bit_test _ i h64).2 hb)]
    have hw : wrap64 ((i : Int) + 1) = ((i + 1 : Nat) : Int) := by unfold wrap64; omega
    rw [hw, wrap_i (i + 1) (by omega), if_pos (by omega)]
    by_cases h63 : i = 63
    · subst h63
      have hn64 : n = 64 := by omega
      subst hn64
      rw [if_pos (by decide)]
      have e1 : ones 64 = ~~~0#64 := by decide
      have h0 := c_not 0#64
      rw [c_zero] at h0
      have h2 := c_and a 0#64
      rw [c_zero] at h2
      rw [h0, h2, e1, if_pos rfl]
      simp
    · rw [if_neg (by omega), f_ones (i + 1) (by omega), show i + 1 = n by omega, c_not, c_not, c_and, BitVec.not_not, if_pos rfl]
      simp
  | succ j ih =>
    intro k i hi h64 hk
    obtain ⟨k, rfl⟩ : ∃ q, k = q + 1 := ⟨k - 1, by omega⟩
    have hb : ¬ (a ^^^ b).toNat / 2 ^ i % 2 = 1 := by
      have h : 2 ^ n ≤ 2 ^ i := Nat.pow_le_pow_right (by decide) (by omega)
      rw [Nat.div_eq_of_lt (by omega)]; omega
    simp only [posternlaw14_TnumRange.l0]
    rw [if_pos (by omega), wrap_i i (by omega), if_pos (by omega), c_xor, if_neg (fun h => hb ((bit_test _ i h64).1 h))]
    by_cases h0 : i = 0
    · subst h0
      have hn0 : n = 0 := by omega
      subst hn0
      obtain ⟨k, rfl⟩ : ∃ q, k = q + 1 := ⟨k - 1, by omega⟩
      simp only [posternlaw14_TnumRange.l0]
      rw [if_neg (by unfold wrap64; omega)]
      have h1 := c_not (~~~0#64)
      rw [show ((~~~0#64).toNat : Int) = 18446744073709551615 by decide] at h1
      have h2 := c_and a (~~~0#64)
      rw [show ((~~~0#64).toNat : Int) = 18446744073709551615 by decide] at h2
      have e1 : ones 0 = 0#64 := by decide
      rw [h1, h2, e1, if_pos (by simp)]
      simp
    · rw [show wrap64 ((i : Int) - 1) = ((i - 1 : Nat) : Int) by unfold wrap64; omega]
      exact ih k (i - 1) (by omega) (by omega) (by omega)

theorem f_range (a b : W) (h : ¬ (a.toNat : Int) > (b.toNat : Int)) : ∃ n : Nat, n ≤ 64 ∧ (a ^^^ b).toNat < 2 ^ n ∧ (0 < n → 2 ^ (n - 1) ≤ (a ^^^ b).toNat) ∧
    tnum_Range.f (a.toNat : Int) (b.toNat : Int) = some (((a &&& ~~~(ones n)).toNat : Int), ((ones n).toNat : Int)) := by
  obtain ⟨n, e, h1, h2, h3⟩ := bitLen_spec (a ^^^ b)
  refine ⟨n, h1, h2, h3, ?_⟩
  have hl := lt (a ^^^ b)
  unfold tnum_Range.f bits_Len64.f
  rw [if_neg h, c_xor, if_pos ⟨by omega, by omega⟩, Int.toNat_natCast, e]
  simp only [Option.bind_some]
  rw [wrap_i n h1, if_pos (by omega), f_ones n h1, c_andNot]
end TnumRangeParts
open TnumRangeParts

theorem first_true : posternlaw14_first.f 300 = some true := by decide +kernel

theorem TnumRange : posternlaw14_TnumRange.Pure := by
  intro a0 a1 a2 w0 w1 w2
  obtain ⟨a, rfl⟩ := bv_of w0
  obtain ⟨b, rfl⟩ := bv_of w1
  obtain ⟨c, rfl⟩ := bv_of w2
  refine ⟨300, ?_⟩
  have ha := lt a; have hb := lt b; have hc := lt c
  unfold posternlaw14_TnumRange.f
  rw [first_true]
  simp only [Option.bind_some, if_true]
  by_cases hgt : (a.toNat : Int) > (b.toNat : Int)
  · unfold tnum_Range.f
    rw [if_pos hgt]
    simp only [Option.bind_some]
    rw [if_pos hgt]
    rfl
  · obtain ⟨n, hn, hd, hl, e⟩ := f_range a b hgt
    rw [e]
    simp only [Option.bind_some]
    rw [if_neg hgt, c_sub]
    have es : (b - a).toNat = b.toNat - a.toNat := by rw [BitVec.toNat_sub]; omega
    have main : ∀ v : W, a.toNat ≤ v.toNat → v.toNat ≤ b.toNat → posternlaw14_TnumRange.j0 300 (a.toNat : Int) (b.toNat : Int) (v.toNat : Int) ((a &&& ~~~(ones n)).toNat : Int) ((ones n).toNat : Int) = some true := by
      intro v h1 h2
      simp only [posternlaw14_TnumRange.j0]
      rw [f_good (tidy_andNot a (ones n))]
      simp only [Option.bind_some, if_true]
      rw [f_has (mem_range hn hd (Nat.le_refl _) (by omega)), f_has (mem_range hn hd (by omega) (Nat.le_refl _)), f_has (mem_range hn hd h1 h2)]
      simp only [Option.bind_some, if_true, Bool.not_true, posternlaw14_TnumRange.j1, Bool.false_eq_true, if_false]
      exact loop a b n hn hd hl (64 - n) 298 63 (by omega) (by omega) (by omega)
    by_cases hfull : ((b - a).toNat : Int) < 18446744073709551615
    · rw [if_pos hfull]
      have e1 : IntKind.u64.wrap (((b - a).toNat : Int) + 1) = ((b.toNat - a.toNat + 1 : Nat) : Int) := by rw [IntKind.wrap_u64]; omega
      rw [e1, if_neg (by omega)]
      have hr : c.toNat % (b.toNat - a.toNat + 1) < b.toNat - a.toNat + 1 := Nat.mod_lt _ (by omega)
      have e2 : IntKind.u64.wrap ((a.toNat : Int) + Int.tmod (c.toNat : Int) ((b.toNat - a.toNat + 1 : Nat) : Int)) = ((BitVec.ofNat 64 (a.toNat + c.toNat % (b.toNat - a.toNat + 1))).toNat : Int) := by
        rw [Int.tmod_eq_emod_of_nonneg (by omega), ← Int.natCast_emod, BitVec.toNat_ofNat, IntKind.wrap_u64]
        generalize c.toNat % (b.toNat - a.toNat + 1) = r at *
        omega
      rw [e2]
      have e3 : (BitVec.ofNat 64 (a.toNat + c.toNat % (b.toNat - a.toNat + 1))).toNat = a.toNat + c.toNat % (b.toNat - a.toNat + 1) := by
        rw [BitVec.toNat_ofNat]
        generalize c.toNat % (b.toNat - a.toNat + 1) = r at *
        exact Nat.mod_eq_of_lt (by omega)
      refine main _ ?_ ?_
      · rw [e3]; omega
      · rw [e3]; omega
    · rw [if_neg hfull]
      exact main c (by omega) (by omega)

end Go.Proofs.Ytladlljnpmpdpaa.Pure
