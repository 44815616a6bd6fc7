/- What alu.Do makes of any two numbers. -/
import Derived.Test.YtladlljnpmpdpaaPSpanBestx2
import Derived.Test.YtladlljnpmpdpaaVal
namespace Go.Proofs.Ytladlljnpmpdpaa.AluSpanBest
open Go.RowKit Go.Proofs.Ytladlljnpmpdpaa.PSpanBest Go.Proofs.YtladlljnpmpdpaaW.PrintWords Go.Proofs.YtladlljnpmpdpaaW.PrintLast Go.Proofs.YtladlljnpmpdpaaW.PrintMore
open Go.Proofs.Ytladlljnpmpdpaa.Num

theorem alu_do64 (k : Int) (hk : k ∈ ops) {a b : Nat} (ha : a < 18446744073709551616) (hb : b < 18446744073709551616) : alu_do.f k (a : Int) (b : Int) 63 = some ((val k 64 a b : Int), 0) := by
  have hs : (0 : Int) ≤ ((b % 64 : Nat) : Int) := Int.natCast_nonneg _
  simp only [ops, List.mem_cons, List.not_mem_nil, or_false] at hk
  rcases hk with rfl | rfl | rfl | rfl | rfl | rfl | rfl | rfl | rfl | rfl | rfl | rfl | rfl
  · simp [alu_do.f, val, IntKind.wrap_u64]
  · simp [alu_do.f, val, IntKind.wrap_u64]; omega
  · simp [alu_do.f, val, IntKind.wrap_u64]
  · simp only [alu_do.f, val, IntKind.wrap_u64]
    simp
    by_cases h : b = 0
    · subst h; simp
    · have h1 : a / b < 18446744073709551616 := Nat.lt_of_le_of_lt (Nat.div_le_self _ _) ha
      rw [if_neg (by omega), ← Int.natCast_ediv]
      congr 2
      generalize a / b = q at *
      omega
  · simp [alu_do.f, val, or_nat ha hb]
  · simp [alu_do.f, val, and_nat ha hb]
  · simp only [alu_do.f, val, Int.reduceEq, if_true, if_false, and_63 hb, hs, shl_nat a (b % 64) (by omega)]
  · simp only [alu_do.f, val, Int.reduceEq, if_true, if_false, and_63 hb, hs, shr_nat a (b % 64) (by omega)]
  · simp [alu_do.f, val, IntKind.wrap_u64]; omega
  · simp only [alu_do.f, val]
    simp
    by_cases h : b = 0
    · subst h; simp
    · rw [if_neg (by omega), Int.tmod_eq_emod_of_nonneg (by omega), ← Int.natCast_emod]
  · simp [alu_do.f, val, xor_nat ha hb]
  · simp [alu_do.f, val]
  · have hn : b % 64 ≤ 64 := by omega
    have e := sar_ediv a (b % 64) 64 hn
    have hp : 2 ^ (64 - b % 64) ≤ 2 ^ 64 := pow_le (by omega)
    have hq : 0 < 2 ^ (64 - b % 64) := Nat.two_pow_pos _
    have hd : a / 2 ^ (b % 64) < 2 ^ (64 - b % 64) := by
      rw [Nat.div_lt_iff_lt_mul (Nat.two_pow_pos _), ← Nat.pow_add, show 64 - b % 64 + b % 64 = 64 by omega]; exact ha
    simp only [alu_do.f, val, Int.reduceEq, if_true, if_false, and_63 hb, hs]
    congr 2
    rw [IntKind.wrap_u64]
    unfold shr
    rw [Int.toNat_natCast, Nat.min_eq_left (show b % 64 ≤ IntKind.i64.bits from hn)]
    generalize hX : a / 2 ^ (b % 64) = X at *
    generalize hY : 2 ^ (64 - b % 64) = Y at *
    by_cases h : a < 2 ^ (64 - 1)
    · rw [if_pos h, show wrap64 (a : Int) = (a : Int) by unfold wrap64; omega, show ((a : Int) / 2 ^ (b % 64)) = (X : Int) by rw [← hX]; simp]
      omega
    · rw [if_neg h, show wrap64 (a : Int) = (a : Int) - ((2 ^ 64 : Nat) : Int) by unfold wrap64; omega, e]
      omega

theorem alu_do32 (k : Int) (hk : k ∈ ops) {a b : Nat} (ha : a < 4294967296) (hb : b < 4294967296) : ∃ r : Nat, alu_do.f k (a : Int) (b : Int) 31 = some ((r : Int), 0) ∧ r % 4294967296 = val k 32 a b := by
  have ha' : a < 18446744073709551616 := by omega
  have hb' : b < 18446744073709551616 := by omega
  have hs : (0 : Int) ≤ ((b % 32 : Nat) : Int) := Int.natCast_nonneg _
  simp only [ops, List.mem_cons, List.not_mem_nil, or_false] at hk
  rcases hk with rfl | rfl | rfl | rfl | rfl | rfl | rfl | rfl | rfl | rfl | rfl | rfl | rfl
  · exact ⟨(a + b) % 18446744073709551616, by simp [alu_do.f, IntKind.wrap_u64], by simp only [val, Int.reduceEq, if_true, if_false, Nat.reducePow]; omega⟩
  · exact ⟨(a + (18446744073709551616 - b)) % 18446744073709551616, by simp [alu_do.f, IntKind.wrap_u64]; omega, by simp only [val, Int.reduceEq, if_true, if_false, Nat.reducePow]; omega⟩
  · exact ⟨(a * b) % 18446744073709551616, by simp [alu_do.f, IntKind.wrap_u64], by simp only [val, Int.reduceEq, if_true, if_false, Nat.reducePow]; omega⟩
  · have h1 : a / b ≤ a := Nat.div_le_self _ _
    refine ⟨a / b, ?_, by simp only [val, Int.reduceEq, if_true, if_false]; generalize a / b = q at *; omega⟩
    simp only [alu_do.f, IntKind.wrap_u64]
    simp
    by_cases h : b = 0
    · subst h; simp
    · rw [if_neg (by omega), ← Int.natCast_ediv]
      congr 2
      generalize a / b = q at *
      omega
  · have h1 : a ||| b < 2 ^ 32 := Nat.or_lt_two_pow ha hb
    exact ⟨a ||| b, by simp [alu_do.f, or_nat ha' hb'], by simp only [val, Int.reduceEq, if_true, if_false]; omega⟩
  · have h1 : a &&& b ≤ a := Nat.and_le_left
    exact ⟨a &&& b, by simp [alu_do.f, and_nat ha' hb'], by simp only [val, Int.reduceEq, if_true, if_false]; omega⟩
  · refine ⟨a * 2 ^ (b % 32) % 18446744073709551616, by simp only [alu_do.f, Int.reduceEq, if_true, if_false, and_31 hb', hs, shl_nat a (b % 32) (by omega)], ?_⟩
    simp only [val, Int.reduceEq, if_true, if_false, Nat.reducePow]
    rw [Nat.mod_mod_of_dvd _ (by decide)]
  · have h1 : a / 2 ^ (b % 32) ≤ a := Nat.div_le_self _ _
    refine ⟨a / 2 ^ (b % 32), by simp only [alu_do.f, Int.reduceEq, if_true, if_false, and_31 hb', hs, shr_nat a (b % 32) (by omega)], ?_⟩
    simp only [val, Int.reduceEq, if_true, if_false]; generalize a / 2 ^ (b % 32) = q at *; omega
  · exact ⟨(18446744073709551616 - a) % 18446744073709551616, by simp [alu_do.f, IntKind.wrap_u64]; omega, by simp only [val, Int.reduceEq, if_true, if_false, Nat.reducePow]; omega⟩
  · refine ⟨a % b, ?_, ?_⟩
    · simp only [alu_do.f]
      simp
      by_cases h : b = 0
      · subst h; simp
      · rw [if_neg (by omega), Int.tmod_eq_emod_of_nonneg (by omega), ← Int.natCast_emod]
    · have h1 : a % b ≤ a := Nat.mod_le _ _
      simp only [val, Int.reduceEq, if_true, if_false]; omega
  · have h1 : a ^^^ b < 2 ^ 32 := Nat.xor_lt_two_pow ha hb
    exact ⟨a ^^^ b, by simp [alu_do.f, xor_nat ha' hb'], by simp only [val, Int.reduceEq, if_true, if_false]; omega⟩
  · exact ⟨b, by simp [alu_do.f], by simp only [val, Int.reduceEq, if_true, if_false]; omega⟩
  · have hn : b % 32 ≤ 32 := by omega
    have e := sar_ediv a (b % 32) 32 hn
    have hp : 2 ^ (32 - b % 32) ≤ 2 ^ 32 := pow_le (by omega)
    have hq : 0 < 2 ^ (32 - b % 32) := Nat.two_pow_pos _
    have hd : a / 2 ^ (b % 32) < 2 ^ (32 - b % 32) := by
      rw [Nat.div_lt_iff_lt_mul (Nat.two_pow_pos _), ← Nat.pow_add, show 32 - b % 32 + b % 32 = 32 by omega]; exact ha
    simp only [alu_do.f, val, Int.reduceEq, if_true, if_false, and_31 hb', hs]
    unfold shr
    rw [Int.toNat_natCast, Nat.min_eq_left (show b % 32 ≤ IntKind.i32.bits from hn)]
    generalize hX : a / 2 ^ (b % 32) = X at *
    generalize hY : 2 ^ (32 - b % 32) = Y at *
    by_cases h : a < 2 ^ (32 - 1)
    · refine ⟨X, ?_, ?_⟩
      · rw [show wrap32 ((a : Int) % 4294967296) = (a : Int) by unfold wrap32; omega, show ((a : Int) / 2 ^ (b % 32)) = (X : Int) by rw [← hX]; simp]
        congr 2; omega
      · rw [if_pos h]; omega
    · refine ⟨X + (4294967296 - Y), ?_, ?_⟩
      · rw [show wrap32 ((a : Int) % 4294967296) = (a : Int) - ((2 ^ 32 : Nat) : Int) by unfold wrap32; omega, e]
        congr 2; omega
      · rw [if_neg h]; omega

theorem alu_Do64 (k : Int) (hk : k ∈ ops) {a b : Nat} (ha : a < 18446744073709551616) (hb : b < 18446744073709551616) : alu_Do.f k true (a : Int) (b : Int) = some ((val k 64 a b : Int), 0) := by
  unfold alu_Do.f
  rw [if_pos rfl, alu_do64 k hk ha hb]
  rfl
theorem alu_Do32 (k : Int) (hk : k ∈ ops) (a b : Nat) : alu_Do.f k false (a : Int) (b : Int) = some ((val k 32 (a % 4294967296) (b % 4294967296) : Int), 0) := by
  obtain ⟨r, h1, h2⟩ := alu_do32 k hk (a := a % 4294967296) (b := b % 4294967296) (by omega) (by omega)
  unfold alu_Do.f
  rw [if_neg (by decide), show (a : Int) % 4294967296 = ((a % 4294967296 : Nat) : Int) by omega, show (b : Int) % 4294967296 = ((b % 4294967296 : Nat) : Int) by omega, h1, ← h2]
  simp only [Option.bind_some]
  rw [show (r : Int) % 4294967296 = ((r % 4294967296 : Nat) : Int) by omega]
theorem alu_Do_not (k : Int) (hk : k ∉ ops) (w : Bool) (a b : Int) : alu_Do.f k w a b = some (0, 2) := by
  simp only [ops, List.mem_cons, List.not_mem_nil, or_false, not_or] at hk
  obtain ⟨h0, h1, h2, h3, h4, h5, h6, h7, h8, h9, h10, h11, h12⟩ := hk
  cases w <;> simp [alu_Do.f, alu_do.f, h0, h1, h2, h3, h4, h5, h6, h7, h8, h9, h10, h11, h12]

end Go.Proofs.Ytladlljnpmpdpaa.AluSpanBest
