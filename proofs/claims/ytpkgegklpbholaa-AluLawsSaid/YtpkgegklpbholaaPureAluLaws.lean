/- PROVED HERE: for all numbers a, b of 64 bits, over 64 and over 32 bits: a sum less b is a, two xors by b are none, quotient times b and the rest give a, two negations are none, and each condition is its opposite turned. No condition but the kinds of the numbers. -/
import Derived.Test.YtpkgegklpbholaaPAluLawsx2
import Derived.Test.YtpkgegklpbholaaAluAluLaws
namespace Go.Proofs.Ytpkgegklpbholaa.Pure
open Go.RowKit Go.Proofs.Ytpkgegklpbholaa.PAluLaws Go.Proofs.YtpkgegklpbholaaW.PrintWords Go.Proofs.YtpkgegklpbholaaW.PrintLast Go.Proofs.YtpkgegklpbholaaW.PrintMore
open Go.Proofs.Ytpkgegklpbholaa.Num Go.Proofs.Ytpkgegklpbholaa.AluAluLaws

namespace AluLawsParts
theorem laws (B : Nat) (a b : Nat) (ha : a < 2 ^ B) (hb : b < 2 ^ B) : val 16 B (val 0 B a b) b = a ∧ val 160 B (val 160 B a b) b = a ∧ val 0 B (val 32 B (val 48 B a b) b) (val 144 B a b) = a ∧ val 128 B (val 128 B a 0) 0 = a := by
  have hpos : 0 < 2 ^ B := Nat.two_pow_pos B
  simp only [val, Int.reduceEq, if_true, if_false]
  refine ⟨?_, ?_, ?_, ?_⟩
  · by_cases h : a + b < 2 ^ B
    · rw [Nat.mod_eq_of_lt h, show a + b + (2 ^ B - b) = a + 2 ^ B by omega, Nat.add_mod_right, Nat.mod_eq_of_lt ha]
    · have e : (a + b) % 2 ^ B = a + b - 2 ^ B := by rw [Nat.mod_eq_sub_mod (by omega), Nat.mod_eq_of_lt (by omega)]
      rw [e, show a + b - 2 ^ B + (2 ^ B - b) = a by omega, Nat.mod_eq_of_lt ha]
  · rw [Nat.xor_assoc, Nat.xor_self, Nat.xor_zero]
  · have h := Nat.div_add_mod a b
    rw [Nat.mul_comm] at h
    have h1 : a / b * b ≤ a := Nat.div_mul_le_self _ _
    rw [Nat.mod_eq_of_lt (show a / b * b < 2 ^ B by omega), h, Nat.mod_eq_of_lt ha]
  · by_cases h : a = 0
    · subst h; rw [Nat.sub_zero, Nat.mod_self, Nat.sub_zero, Nat.mod_self]
    · rw [Nat.mod_eq_of_lt (show 2 ^ B - a < 2 ^ B by omega), show 2 ^ B - (2 ^ B - a) = a by omega, Nat.mod_eq_of_lt ha]

theorem val_lt (k : Int) (hk : k ∈ ([0, 16, 32, 48, 128, 144, 160] : List Int)) (B a b : Nat) (ha : a < 2 ^ B) (hb : b < 2 ^ B) : val k B a b < 2 ^ B := by
  have hpos : 0 < 2 ^ B := Nat.two_pow_pos B
  simp only [List.mem_cons, List.not_mem_nil, or_false] at hk
  rcases hk with rfl | rfl | rfl | rfl | rfl | rfl | rfl <;> simp only [val, Int.reduceEq, if_true, if_false]
  · exact Nat.mod_lt _ hpos
  · exact Nat.mod_lt _ hpos
  · exact Nat.mod_lt _ hpos
  · exact Nat.lt_of_le_of_lt (Nat.div_le_self _ _) ha
  · exact Nat.mod_lt _ hpos
  · exact Nat.lt_of_le_of_lt (Nat.mod_le _ _) ha
  · exact Nat.xor_lt_two_pow ha hb

theorem opp (k : Nat) (p : S55) (hp : p ∈ ([⟨16, 80⟩, ⟨32, 176⟩, ⟨48, 160⟩, ⟨96, 208⟩, ⟨112, 192⟩] : List S55)) (A B : Int) : ∃ c, alu_Holds.j0 (k + 1) p.f0 A B = some (c, 0) ∧ alu_Holds.j0 (k + 1) p.f1 A B = some (!c, 0) := by
  simp only [List.mem_cons, List.not_mem_nil, or_false] at hp
  rcases hp with rfl | rfl | rfl | rfl | rfl <;> simp only [alu_Holds.j0, Int.reduceEq, if_true, if_false]
  · exact ⟨_, rfl, rfl⟩
  · exact ⟨_, rfl, by rw [← decide_not]; simp⟩
  · exact ⟨_, rfl, by rw [← decide_not]; simp⟩
  · exact ⟨_, rfl, by rw [← decide_not]; simp⟩
  · exact ⟨_, rfl, by rw [← decide_not]; simp⟩
theorem opp_f (k : Nat) (p : S55) (hp : p ∈ ([⟨16, 80⟩, ⟨32, 176⟩, ⟨48, 160⟩, ⟨96, 208⟩, ⟨112, 192⟩] : List S55)) (w : Bool) (A B : Int) : ∃ c, alu_Holds.f (k + 1) p.f0 w A B = some (c, 0) ∧ alu_Holds.f (k + 1) p.f1 w A B = some (!c, 0) := by
  unfold alu_Holds.f
  cases w
  · exact opp k p hp _ _
  · exact opp k p hp _ _

theorem l0_true (A B : Int) (w : Bool) (n : Nat) : ∀ (k : Nat) (i : Nat), i ≤ 5 → 5 - i = n → n + 2 < k → posternlaw05_AluLaws.l0 k A B w [⟨16, 80⟩, ⟨32, 176⟩, ⟨48, 160⟩, ⟨96, 208⟩, ⟨112, 192⟩] 5 (i : Int) = some true := by
  induction n with
  | zero =>
    intro k i hi hd hk
    obtain ⟨k, rfl⟩ : ∃ m, k = m + 1 := ⟨k - 1, by omega⟩
    simp only [posternlaw05_AluLaws.l0]; rw [if_neg (by omega)]
  | succ n ih =>
    intro k i hi hd hk
    obtain ⟨k, rfl⟩ : ∃ m, k = m + 2 := ⟨k - 2, by omega⟩
    have hm : rd_T55 ([⟨16, 80⟩, ⟨32, 176⟩, ⟨48, 160⟩, ⟨96, 208⟩, ⟨112, 192⟩] : List S55) (i : Int) ∈ ([⟨16, 80⟩, ⟨32, 176⟩, ⟨48, 160⟩, ⟨96, 208⟩, ⟨112, 192⟩] : List S55) := by
      have : i = 0 ∨ i = 1 ∨ i = 2 ∨ i = 3 ∨ i = 4 := by omega
      rcases this with rfl | rfl | rfl | rfl | rfl <;> simp [rd_T55]
    obtain ⟨c, h1, h2⟩ := opp_f k _ hm w A B
    simp only [posternlaw05_AluLaws.l0]; rw [if_pos (by omega), if_pos (by omega), if_pos (by simp; omega), h1]
    simp only [Option.bind_some]
    rw [h2]
    simp only [Option.bind_some]
    rw [if_neg (by cases c <;> decide), show wrap64 ((i : Int) + 1) = ((i + 1 : Nat) : Int) by unfold wrap64; omega]
    exact ih (k + 1) (i + 1) (by omega) (by omega) (by omega)
theorem tail_true (A B : Int) (w : Bool) : posternlaw05_AluLaws.j0 40 A B w A A A A = some true := by
  simp only [posternlaw05_AluLaws.j0, posternlaw05_AluLaws.j1, if_true, bne_self_eq_false, Bool.false_eq_true, if_false, Option.bind_some]
  exact l0_true A B w 5 38 0 (by omega) (by omega) (by omega)
end AluLawsParts
open AluLawsParts

theorem first_true : posternlaw05_first.f 40 = some true := by decide +kernel

theorem AluLaws : posternlaw05_AluLaws.Pure := by
  intro a0 a1 a2 w0 w1
  obtain ⟨a, rfl, ha⟩ := nat_of w0
  obtain ⟨b, rfl, hb⟩ := nat_of w1
  refine ⟨40, ?_⟩
  have m0 : (0 : Int) ∈ ops := by decide
  have m16 : (16 : Int) ∈ ops := by decide
  have m32 : (32 : Int) ∈ ops := by decide
  have m48 : (48 : Int) ∈ ops := by decide
  have m128 : (128 : Int) ∈ ops := by decide
  have m144 : (144 : Int) ∈ ops := by decide
  have m160 : (160 : Int) ∈ ops := by decide
  unfold posternlaw05_AluLaws.f
  rw [first_true]
  simp only [Option.bind_some, if_true]
  cases a2 with
  | true =>
    have e64 : (2 : Nat) ^ 64 = 18446744073709551616 := by decide
    rw [← e64] at ha hb
    obtain ⟨l1, l2, l3, l4⟩ := laws 64 a b ha hb
    have L := fun k hk x y (hx : x < 2 ^ 64) (hy : y < 2 ^ 64) => val_lt k hk 64 x y hx hy
    have D := fun k hk x y (hx : x < 2 ^ 64) (hy : y < 2 ^ 64) => alu_Do64 k hk (a := x) (b := y) (Nat.lt_of_lt_of_eq hx e64) (Nat.lt_of_lt_of_eq hy e64)
    rw [D 0 m0 a b ha hb]; simp only [Option.bind_some]
    rw [D 16 m16 _ b (L 0 (by decide) a b ha hb) hb, l1]; simp only [Option.bind_some]
    rw [D 160 m160 a b ha hb]; simp only [Option.bind_some]
    rw [D 160 m160 _ b (L 160 (by decide) a b ha hb) hb, l2]; simp only [Option.bind_some]
    rw [D 48 m48 a b ha hb]; simp only [Option.bind_some]
    rw [D 32 m32 _ b (L 48 (by decide) a b ha hb) hb]; simp only [Option.bind_some]
    rw [D 144 m144 a b ha hb]; simp only [Option.bind_some]
    rw [D 0 m0 _ _ (L 32 (by decide) _ _ (L 48 (by decide) a b ha hb) hb) (L 144 (by decide) a b ha hb), l3]; simp only [Option.bind_some]
    have e0 := D 128 m128 a 0 ha (Nat.two_pow_pos _)
    rw [show ((0 : Nat) : Int) = 0 from rfl] at e0
    rw [e0]; simp only [Option.bind_some]
    have e1 := D 128 m128 _ 0 (L 128 (by decide) a 0 ha (Nat.two_pow_pos _)) (Nat.two_pow_pos _)
    rw [show ((0 : Nat) : Int) = 0 from rfl, l4] at e1
    rw [e1]; simp only [Option.bind_some, if_true]
    exact tail_true _ _ true
  | false =>
    have e32 : (2 : Nat) ^ 32 = 4294967296 := by decide
    have hp : a % 4294967296 < 2 ^ 32 := by rw [e32]; exact Nat.mod_lt _ (by decide)
    have hq : b % 4294967296 < 2 ^ 32 := by rw [e32]; exact Nat.mod_lt _ (by decide)
    obtain ⟨l1, l2, l3, l4⟩ := laws 32 (a % 4294967296) (b % 4294967296) hp hq
    have L := fun k hk x y (hx : x < 2 ^ 32) (hy : y < 2 ^ 32) => val_lt k hk 32 x y hx hy
    have D := fun k hk x y => alu_Do32 k hk x y
    have C : ∀ x, x < 2 ^ 32 → x % 4294967296 = x := fun x hx => by rw [e32] at hx; exact Nat.mod_eq_of_lt hx
    rw [D 0 m0 a b]; simp only [Option.bind_some]
    rw [D 16 m16 _ b, C _ (L 0 (by decide) _ _ hp hq), l1]; simp only [Option.bind_some]
    rw [D 160 m160 a b]; simp only [Option.bind_some]
    rw [D 160 m160 _ b, C _ (L 160 (by decide) _ _ hp hq), l2]; simp only [Option.bind_some]
    rw [D 48 m48 a b]; simp only [Option.bind_some]
    rw [D 32 m32 _ b, C _ (L 48 (by decide) _ _ hp hq)]; simp only [Option.bind_some]
    rw [D 144 m144 a b]; simp only [Option.bind_some]
    rw [D 0 m0 _ _, C _ (L 32 (by decide) _ _ (L 48 (by decide) _ _ hp hq) hq), C _ (L 144 (by decide) _ _ hp hq), l3]; simp only [Option.bind_some]
    have e0 := D 128 m128 a 0
    rw [show ((0 : Nat) : Int) = 0 from rfl, Nat.zero_mod] at e0
    rw [e0]; simp only [Option.bind_some]
    have e1 := D 128 m128 (val 128 32 (a % 4294967296) 0) 0
    rw [show ((0 : Nat) : Int) = 0 from rfl, Nat.zero_mod, C _ (L 128 (by decide) _ 0 hp (Nat.two_pow_pos _)), l4] at e1
    rw [e1]; simp only [Option.bind_some, Bool.false_eq_true, if_false]
    rw [and_low ha]
    exact tail_true _ _ false

end Go.Proofs.Ytpkgegklpbholaa.Pure
