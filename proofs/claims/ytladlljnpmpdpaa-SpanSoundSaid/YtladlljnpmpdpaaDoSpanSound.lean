/- What alu.Do and the document's Do make of any two numbers: one and the same number. -/
import Derived.Test.YtladlljnpmpdpaaPSpanSoundx
import Derived.Test.YtladlljnpmpdpaaVal
namespace Go.Proofs.Ytladlljnpmpdpaa.DoSpanSound
open Go.RowKit Go.Proofs.Ytladlljnpmpdpaa.PSpanSound Go.Proofs.YtladlljnpmpdpaaW.PrintWords Go.Proofs.YtladlljnpmpdpaaW.PrintLast Go.Proofs.YtladlljnpmpdpaaW.PrintMore
open Go.Proofs.Ytladlljnpmpdpaa.Num
theorem alu_do64 (k : Int) (hk : k ∈ ops) {a b : Nat} (ha : a < 18446744073709551616) (hb : b < 18446744073709551616) : alu_do.f k (a : Int) (b : Int) 63 = some ((val k 64 a b : Int), 0) := by
 have hs : (0 : Int) ≤ ((b % 64 : Nat) : Int) := Int.natCast_nonneg _
 simp only [ops, List.mem_cons, List.not_mem_nil, or_false] at hk
 rcases hk with rfl | rfl | rfl | rfl | rfl | rfl | rfl | rfl | rfl | rfl | rfl | rfl | rfl
 · simp [alu_do.f, val, IntKind.wrap_u64]
 · simp [alu_do.f, val, IntKind.wrap_u64]; omega
 · simp [alu_do.f, val, IntKind.wrap_u64]
 ·
  simp only [alu_do.f, val, IntKind.wrap_u64]
  simp
  by_cases h : b = 0
  · subst h; simp
  ·
   have h1 : a / b < 18446744073709551616 := Nat.lt_of_le_of_lt (Nat.div_le_self _ _) ha
   rw [if_neg (by omega), ← Int.natCast_ediv]
   congr 2
   generalize a / b = q at *
   omega
 · simp [alu_do.f, val, or_nat ha hb]
 · simp [alu_do.f, val, and_nat ha hb]
 · simp only [alu_do.f, val, Int.reduceEq, if_true, if_false, and_63 hb, hs, shl_nat a (b % 64) (by omega)]
 · simp only [alu_do.f, val, Int.reduceEq, if_true, if_false, and_63 hb, hs, shr_nat a (b % 64) (by omega)]
 · simp [alu_do.f, val, IntKind.wrap_u64]; omega
 ·
  simp only [alu_do.f, val]
  simp
  by_cases h : b = 0
  · subst h; simp
  · rw [if_neg (by omega), Int.tmod_eq_emod_of_nonneg (by omega), ← Int.natCast_emod]
 · simp [alu_do.f, val, xor_nat ha hb]
 · simp [alu_do.f, val]
 ·
  have hn : b % 64 ≤ 64 := by omega
  have e := sar_ediv a (b % 64) 64 hn
  have hp : 2 ^ (64 - b % 64) ≤ 2 ^ 64 := pow_le (by omega)
  have hq : 0 < 2 ^ (64 - b % 64) := Nat.two_pow_pos _
  have hd : a / 2 ^ (b % 64) < 2 ^ (64 - b % 64) := by
   rw [Nat.div_lt_iff_lt_mul (Nat.two_pow_pos _), ← Nat.pow_add, show 64 - b % 64 + b % 64 = 64 by omega]; exact ha
  simp only [alu_do.f, val, Int.reduceEq, if_true, if_false, and_63 hb, hs]
  congr 2
  rw [IntKind.wrap_u64]
  unfold shr
  rw [Int.toNat_natCast, Nat.min_eq_left (show b % 64 ≤ IntKind.i64.bits from hn)]
  generalize hX : a / 2 ^ (b % 64) = X at *
  generalize hY : 2 ^ (64 - b % 64) = Y at *
  by_cases h : a < 2 ^ (64 - 1)
  ·
   rw [if_pos h, show wrap64 (a : Int) = (a : Int) by unfold wrap64; omega, show ((a : Int) / 2 ^ (b % 64)) = (X : Int) by rw [← hX]; simp]
   omega
  ·
   rw [if_neg h, show wrap64 (a : Int) = (a : Int) - ((2 ^ 64 : Nat) : Int) by unfold wrap64; omega, e]
   omega
theorem alu_do32 (k : Int) (hk : k ∈ ops) {a b : Nat} (ha : a < 4294967296) (hb : b < 4294967296) : ∃ r : Nat, alu_do.f k (a : Int) (b : Int) 31 = some ((r : Int), 0) ∧ r % 4294967296 = val k 32 a b := by
 have ha' : a < 18446744073709551616 := by omega
 have hb' : b < 18446744073709551616 := by omega
 have hs : (0 : Int) ≤ ((b % 32 : Nat) : Int) := Int.natCast_nonneg _
 simp only [ops, List.mem_cons, List.not_mem_nil, or_false] at hk
 rcases hk with rfl | rfl | rfl | rfl | rfl | rfl | rfl | rfl | rfl | rfl | rfl | rfl | rfl
 · exact ⟨(a + b) % 18446744073709551616, by simp [alu_do.f, IntKind.wrap_u64], by simp only [val, Int.reduceEq, if_true, if_false, Nat.reducePow]; omega⟩
 · exact ⟨(a + (18446744073709551616 - b)) % 18446744073709551616, by simp [alu_do.f, IntKind.wrap_u64]; omega, by simp only [val, Int.reduceEq, if_true, if_false, Nat.reducePow]; omega⟩
 · exact ⟨(a * b) % 18446744073709551616, by simp [alu_do.f, IntKind.wrap_u64], by simp only [val, Int.reduceEq, if_true, if_false, Nat.reducePow]; omega⟩
 ·
  have h1 : a / b ≤ a := Nat.div_le_self _ _
  refine ⟨a / b, ?_, by simp only [val, Int.reduceEq, if_true, if_false]; generalize a / b = q at *; omega⟩
  simp only [alu_do.f, IntKind.wrap_u64]
  simp
  by_cases h : b = 0
  · subst h; simp
  ·
   rw [if_neg (by omega), ← Int.natCast_ediv]
   congr 2
   generalize a / b = q at *
   omega
 ·
  have h1 : a ||| b < 2 ^ 32 := Nat.or_lt_two_pow ha hb
  exact ⟨a ||| b, by simp [alu_do.f, or_nat ha' hb'], by simp only [val, Int.reduceEq, if_true, if_false]; omega⟩
 ·
  have h1 : a &&& b ≤ a := Nat.and_le_left
  exact ⟨a &&& b, by simp [alu_do.f, and_nat ha' hb'], by simp only [val, Int.reduceEq, if_true, if_false]; omega⟩
 ·
  refine ⟨a * 2 ^ (b % 32) % 18446744073709551616, by simp only [alu_do.f, Int.reduceEq, if_true, if_false, and_31 hb', hs, shl_nat a (b % 32) (by omega)], ?_⟩
  simp only [val, Int.reduceEq, if_true, if_false, Nat.reducePow]
  rw [Nat.mod_mod_of_dvd _ (by decide)]
 ·
  have h1 : a / 2 ^ (b % 32) ≤ a := Nat.div_le_self _ _
  refine ⟨a / 2 ^ (b % 32), by simp only [alu_do.f, Int.reduceEq, if_true, if_false, and_31 hb', hs, shr_nat a (b % 32) (by omega)], ?_⟩
  simp only [val, Int.reduceEq, if_true, if_false]; generalize a / 2 ^ (b % 32) = q at *; omega
 · exact ⟨(18446744073709551616 - a) % 18446744073709551616, by simp [alu_do.f, IntKind.wrap_u64]; omega, by simp only [val, Int.reduceEq, if_true, if_false, Nat.reducePow]; omega⟩
 ·
  refine ⟨a % b, ?_, ?_⟩
  ·
   simp only [alu_do.f]
   simp
   by_cases h : b = 0
   · subst h; simp
   · rw [if_neg (by omega), Int.tmod_eq_emod_of_nonneg (by omega), ← Int.natCast_emod]
  ·
   have h1 : a % b ≤ a := Nat.mod_le _ _
   simp only [val, Int.reduceEq, if_true, if_false]; omega
 ·
  have h1 : a ^^^ b < 2 ^ 32 := Nat.xor_lt_two_pow ha hb
  exact ⟨a ^^^ b, by simp [alu_do.f, xor_nat ha' hb'], by simp only [val, Int.reduceEq, if_true, if_false]; omega⟩
 · exact ⟨b, by simp [alu_do.f], by simp only [val, Int.reduceEq, if_true, if_false]; omega⟩
 ·
  have hn : b % 32 ≤ 32 := by omega
  have e := sar_ediv a (b % 32) 32 hn
  have hp : 2 ^ (32 - b % 32) ≤ 2 ^ 32 := pow_le (by omega)
  have hq : 0 < 2 ^ (32 - b % 32) := Nat.two_pow_pos _
  have hd : a / 2 ^ (b % 32) < 2 ^ (32 - b % 32) := by
   rw [Nat.div_lt_iff_lt_mul (Nat.two_pow_pos _), ← Nat.pow_add, show 32 - b % 32 + b % 32 = 32 by omega]; exact ha
  simp only [alu_do.f, val, Int.reduceEq, if_true, if_false, and_31 hb', hs]
  unfold shr
  rw [Int.toNat_natCast, Nat.min_eq_left (show b % 32 ≤ IntKind.i32.bits from hn)]
  generalize hX : a / 2 ^ (b % 32) = X at *
  generalize hY : 2 ^ (32 - b % 32) = Y at *
  by_cases h : a < 2 ^ (32 - 1)
  ·
   refine ⟨X, ?_, ?_⟩
   ·
    rw [show wrap32 ((a : Int) % 4294967296) = (a : Int) by unfold wrap32; omega, show ((a : Int) / 2 ^ (b % 32)) = (X : Int) by rw [← hX]; simp]
    congr 2; omega
   · rw [if_pos h]; omega
  ·
   refine ⟨X + (4294967296 - Y), ?_, ?_⟩
   ·
    rw [show wrap32 ((a : Int) % 4294967296) = (a : Int) - ((2 ^ 32 : Nat) : Int) by unfold wrap32; omega, e]
    congr 2; omega
   · rw [if_neg h]; omega
theorem alu_Do64 (k : Int) (hk : k ∈ ops) {a b : Nat} (ha : a < 18446744073709551616) (hb : b < 18446744073709551616) : alu_Do.f k true (a : Int) (b : Int) = some ((val k 64 a b : Int), 0) := by
 unfold alu_Do.f
 rw [if_pos rfl, alu_do64 k hk ha hb]
 rfl
theorem alu_Do32 (k : Int) (hk : k ∈ ops) (a b : Nat) : alu_Do.f k false (a : Int) (b : Int) = some ((val k 32 (a % 4294967296) (b % 4294967296) : Int), 0) := by
 obtain ⟨r, h1, h2⟩ := alu_do32 k hk (a := a % 4294967296) (b := b % 4294967296) (by omega) (by omega)
 unfold alu_Do.f
 rw [if_neg (by decide), show (a : Int) % 4294967296 = ((a % 4294967296 : Nat) : Int) by omega, show (b : Int) % 4294967296 = ((b % 4294967296 : Nat) : Int) by omega, h1, ← h2]
 simp only [Option.bind_some]
 rw [show (r : Int) % 4294967296 = ((r % 4294967296 : Nat) : Int) by omega]
theorem alu_Do_not (k : Int) (hk : k ∉ ops) (w : Bool) (a b : Int) : alu_Do.f k w a b = some (0, 2) := by
 simp only [ops, List.mem_cons, List.not_mem_nil, or_false, not_or] at hk
 obtain ⟨h0, h1, h2, h3, h4, h5, h6, h7, h8, h9, h10, h11, h12⟩ := hk
 cases w <;> simp [alu_Do.f, alu_do.f, h0, h1, h2, h3, h4, h5, h6, h7, h8, h9, h10, h11, h12]
theorem pow_l0 (n : Nat) : ∀ (k m : Nat), n < k → n < 18446744073709551616 → m < 18446744073709551616 → posternref05_pow.l0 k (n : Int) (m : Int) = some ((m * 2 ^ n % 18446744073709551616 : Nat) : Int) := by
 induction n with
 | zero =>
  intro k m hk _ hm
  obtain ⟨k, rfl⟩ : ∃ q, k = q + 1 := ⟨k - 1, by omega⟩
  simp only [posternref05_pow.l0]; rw [if_neg (by omega), Nat.pow_zero, Nat.mul_one, Nat.mod_eq_of_lt hm]
 | succ n ih =>
  intro k m hk hn hm
  obtain ⟨k, rfl⟩ : ∃ q, k = q + 1 := ⟨k - 1, by omega⟩
  simp only [posternref05_pow.l0]; rw [if_pos (by omega), IntKind.wrap_u64, IntKind.wrap_u64]
  rw [show (((n + 1 : Nat) : Int) - 1) % 18446744073709551616 = (n : Int) by omega, show ((m : Int) * 2) % 18446744073709551616 = ((m * 2 % 18446744073709551616 : Nat) : Int) by omega]
  rw [ih k _ (by omega) (by omega) (by omega)]
  congr 2
  rw [Nat.mul_mod, Nat.mod_mod, ← Nat.mul_mod, Nat.pow_succ, Nat.mul_assoc, Nat.mul_comm 2]
theorem pow_f (n k : Nat) (hk : n < k) (hn : n < 64) : posternref05_pow.f k (n : Int) = some ((2 ^ n : Nat) : Int) := by
 unfold posternref05_pow.f
 have := pow_l0 n k 1 hk (by omega) (by omega)
 rw [Nat.one_mul, Nat.mod_eq_of_lt (Nat.pow_lt_pow_right (a := 2) (by decide) (show n < 64 from hn))] at this
 exact this
theorem sum_l0 (B : Nat) (hB : B = 64 ∨ B = 32) (n : Nat) (hn : n < B) (d : Nat) : ∀ (k j X : Nat), j ≤ n → n - j = d → d + 70 < k → X + (2 ^ (B - j) - 2 ^ (B - n)) < 18446744073709551616 →
  posternref05_Do.l0 k (B : Int) (n : Int) (X : Int) (j : Int) = some (if (B : Int) = 32 then Int.tmod ((X + (2 ^ (B - j) - 2 ^ (B - n)) : Nat) : Int) 4294967296 else ((X + (2 ^ (B - j) - 2 ^ (B - n)) : Nat) : Int), true) := by
 induction d with
 | zero =>
  intro k j X hj hd hk hX
  obtain ⟨k, rfl⟩ : ∃ q, k = q + 1 := ⟨k - 1, by omega⟩
  have hjn : j = n := by omega
  subst hjn
  simp only [posternref05_Do.l0]; rw [if_neg (by omega), Nat.sub_self, Nat.add_zero]
  split <;> rfl
 | succ d ih =>
  intro k j X hj hd hk hX
  obtain ⟨k, rfl⟩ : ∃ q, k = q + 1 := ⟨k - 1, by omega⟩
  have e1 : 2 ^ (B - j) = 2 ^ (B - (j + 1)) + 2 ^ (B - (j + 1)) := by
   rw [show B - j = (B - (j + 1)) + 1 by omega, Nat.pow_succ]; omega
  have e2 : 2 ^ (B - n) ≤ 2 ^ (B - (j + 1)) := pow_le (by omega)
  simp only [posternref05_Do.l0]; rw [if_pos (by omega)]
  rw [show IntKind.u64.wrap (IntKind.u64.wrap (wrap64 ((B : Int) - 1)) - (j : Int)) = ((B - (j + 1) : Nat) : Int) by rw [IntKind.wrap_u64, IntKind.wrap_u64]; unfold wrap64; omega]
  rw [pow_f _ k (by omega) (by omega)]
  simp only [Option.bind_some]
  rw [IntKind.wrap_u64, IntKind.wrap_u64]
  generalize hY : 2 ^ (B - (j + 1)) = Y at *
  generalize hZ : 2 ^ (B - n) = Z at *
  rw [show ((X : Int) + (Y : Int)) % 18446744073709551616 = ((X + Y : Nat) : Int) by omega, show ((j : Int) + 1) % 18446744073709551616 = ((j + 1 : Nat) : Int) by omega]
  have ih1 := ih k (j + 1) (X + Y) (by omega) (by omega) (by omega)
  rw [hY] at ih1
  rw [ih1 (by omega), show X + Y + (Y - Z) = X + (2 ^ (B - j) - Z) by omega]
theorem ref_not (k : Nat) (hk : 3 ≤ k) (x0 B a b : Int) (h : x0 ∉ ops) : posternref05_Do.f k x0 B a b = some (0, false) := by
 obtain ⟨k, rfl⟩ : ∃ q, k = q + 1 := ⟨k - 1, by omega⟩
 rw [ops_iff] at h
 unfold posternref05_Do.f
 by_cases h1 : Int.tmod x0 16 = 0
 ·
  by_cases h2 : x0 < 0
  · simp [h1, h2, posternref05_Do.j0]
  ·
   have h3 : x0 > 192 := by omega
   simp [h1, h2, h3, posternref05_Do.j0]
 · simp [h1, posternref05_Do.j0]
theorem tmod_nat (r m : Nat) : Int.tmod (r : Int) (m : Int) = ((r % m : Nat) : Int) := by rw [Int.tmod_eq_emod_of_nonneg (by omega), Int.natCast_emod]
theorem tdiv_nat (r m : Nat) : Int.tdiv (r : Int) (m : Int) = ((r / m : Nat) : Int) := by rw [Int.tdiv_eq_ediv_of_nonneg (by omega), Int.natCast_ediv]
theorem wrap_nat {r : Nat} (h : r < 18446744073709551616) : IntKind.u64.wrap (r : Int) = (r : Int) := by rw [IntKind.wrap_u64]; omega
theorem ref_j64 (k : Nat) (hk : 200 ≤ k) (x0 : Int) (hx : x0 ∈ ops) {a b : Nat} (ha : a < 18446744073709551616) (hb : b < 18446744073709551616) : posternref05_Do.j1 k x0 64 (a : Int) (b : Int) = some ((val x0 64 a b : Int), true) := by
 obtain ⟨k, rfl⟩ : ∃ q, k = q + 1 := ⟨k - 1, by omega⟩
 have hw : IntKind.u64.wrap 64 = ((64 : Nat) : Int) := by decide +kernel
 have h63 : IntKind.u64.wrap (wrap64 (64 - 1)) = ((63 : Nat) : Int) := by decide +kernel
 have hp := pow_f (b % 64) k (by omega) (by omega)
 have hpos : 0 < 2 ^ (b % 64) := Nat.two_pow_pos _
 simp only [posternref05_Do.j1]
 rw [hw, if_neg (by decide)]
 simp only [ops, List.mem_cons, List.not_mem_nil, or_false] at hx
 rcases hx with rfl | rfl | rfl | rfl | rfl | rfl | rfl | rfl | rfl | rfl | rfl | rfl | rfl
 ·
  simp only [show wrap64 (Int.tdiv 0 16) = 0 by decide +kernel, val, Int.reduceEq, if_true, if_false]
  rw [IntKind.wrap_u64]; simp only [Nat.reducePow]; congr 2
 ·
  simp only [show wrap64 (Int.tdiv 16 16) = 1 by decide +kernel, val, Int.reduceEq, if_true, if_false]
  rw [not_nat hb, IntKind.wrap_u64, IntKind.wrap_u64]; simp only [Nat.reducePow]; congr 2; omega
 ·
  simp only [show wrap64 (Int.tdiv 32 16) = 2 by decide +kernel, val, Int.reduceEq, if_true, if_false]
  rw [IntKind.wrap_u64]; simp only [Nat.reducePow]; congr 2
 ·
  simp only [show wrap64 (Int.tdiv 48 16) = 3 by decide +kernel, val, Int.reduceEq, if_true, if_false]
  by_cases h : b = 0
  · subst h; simp
  ·
   have h1 : a / b ≤ a := Nat.div_le_self _ _
   rw [if_pos (by omega), if_neg (by omega), tdiv_nat, wrap_nat (by omega)]
 ·
  simp only [show wrap64 (Int.tdiv 64 16) = 4 by decide +kernel, val, Int.reduceEq, if_true, if_false]
  rw [or_nat ha hb]
 ·
  simp only [show wrap64 (Int.tdiv 80 16) = 5 by decide +kernel, val, Int.reduceEq, if_true, if_false]
  rw [and_nat ha hb]
 ·
  simp only [show wrap64 (Int.tdiv 96 16) = 6 by decide +kernel, val, Int.reduceEq, if_true, if_false]
  rw [tmod_nat, hp]
  simp only [Option.bind_some]
  rw [← Int.natCast_mul, IntKind.wrap_u64]
  simp only [Nat.reducePow]
  congr 2
 ·
  simp only [show wrap64 (Int.tdiv 112 16) = 7 by decide +kernel, val, Int.reduceEq, if_true, if_false]
  rw [tmod_nat, hp]
  simp only [Option.bind_some]
  have h1 : a / 2 ^ (b % 64) ≤ a := Nat.div_le_self _ _
  rw [if_neg (by omega), tdiv_nat, wrap_nat (by omega)]
 ·
  simp only [show wrap64 (Int.tdiv 128 16) = 8 by decide +kernel, val, Int.reduceEq, if_true, if_false]
  rw [not_nat ha, IntKind.wrap_u64]; simp only [Nat.reducePow]; congr 2; omega
 ·
  simp only [show wrap64 (Int.tdiv 144 16) = 9 by decide +kernel, val, Int.reduceEq, if_true, if_false]
  by_cases h : b = 0
  · subst h; simp
  ·
   have h1 : a / b ≤ a := Nat.div_le_self _ _
   have h2 : a / b * b ≤ a := Nat.div_mul_le_self _ _
   have h3 : a % b = a - a / b * b := by have := Nat.div_add_mod a b; rw [Nat.mul_comm] at this; omega
   rw [if_pos (by omega), if_neg (by omega), tdiv_nat, wrap_nat (by omega), ← Int.natCast_mul, wrap_nat (by omega), show (a : Int) - ((a / b * b : Nat) : Int) = ((a - a / b * b : Nat) : Int) by omega, wrap_nat (by omega), h3]
 ·
  simp only [show wrap64 (Int.tdiv 160 16) = 10 by decide +kernel, val, Int.reduceEq, if_true, if_false]
  have h1 := xor_add_and ha hb
  have h2 := or_lt ha hb
  rw [or_nat ha hb, and_nat ha hb, show ((a ||| b : Nat) : Int) - ((a &&& b : Nat) : Int) = ((a ^^^ b : Nat) : Int) by omega, wrap_nat (by omega)]
 · simp only [show wrap64 (Int.tdiv 176 16) = 11 by decide +kernel, val, Int.reduceEq, if_true, if_false]
 ·
  simp only [show wrap64 (Int.tdiv 192 16) = 12 by decide +kernel, val, Int.reduceEq, if_true, if_false]
  have hq := pow_f 63 k (by omega) (by omega)
  have h1 : a / 2 ^ (b % 64) ≤ a := Nat.div_le_self _ _
  have hd : a / 2 ^ (b % 64) < 2 ^ (64 - b % 64) := by
   rw [Nat.div_lt_iff_lt_mul (Nat.two_pow_pos _), ← Nat.pow_add, show 64 - b % 64 + b % 64 = 64 by omega]; exact ha
  have hle : 2 ^ (64 - b % 64) ≤ 2 ^ 64 := pow_le (by omega)
  have hs := sum_l0 64 (Or.inl rfl) (b % 64) (by omega) (b % 64) k 0 (a / 2 ^ (b % 64)) (by omega) (by omega) (by omega) (by rw [Nat.sub_zero]; omega)
  rw [if_neg (by decide)] at hs
  rw [tmod_nat, hp]
  simp only [Option.bind_some]
  rw [if_neg (by omega), h63, hq]
  simp only [Option.bind_some]
  rw [tdiv_nat, wrap_nat (by omega)]
  by_cases h : a < 2 ^ (64 - 1)
  · rw [if_neg (by omega), if_pos h, Nat.add_zero]
  ·
   rw [if_pos (by omega), if_neg h]
   exact hs
theorem ref_j32 (k : Nat) (hk : 200 ≤ k) (x0 : Int) (hx : x0 ∈ ops) {a b : Nat} (ha : a < 4294967296) (hb : b < 4294967296) : posternref05_Do.j1 k x0 32 (a : Int) (b : Int) = some ((val x0 32 a b : Int), true) := by
 obtain ⟨k, rfl⟩ : ∃ q, k = q + 1 := ⟨k - 1, by omega⟩
 have ha' : a < 18446744073709551616 := by omega
 have hb' : b < 18446744073709551616 := by omega
 have hw : IntKind.u64.wrap 32 = ((32 : Nat) : Int) := by decide +kernel
 have h31 : IntKind.u64.wrap (wrap64 (32 - 1)) = ((31 : Nat) : Int) := by decide +kernel
 have hp := pow_f (b % 32) k (by omega) (by omega)
 have hpos : 0 < 2 ^ (b % 32) := Nat.two_pow_pos _
 have cut : ∀ r : Nat, Int.tmod (r : Int) 4294967296 = ((r % 4294967296 : Nat) : Int) := fun r => tmod_nat r 4294967296
 simp only [posternref05_Do.j1]
 rw [hw, if_neg (by decide)]
 simp only [ops, List.mem_cons, List.not_mem_nil, or_false] at hx
 rcases hx with rfl | rfl | rfl | rfl | rfl | rfl | rfl | rfl | rfl | rfl | rfl | rfl | rfl
 ·
  simp only [show wrap64 (Int.tdiv 0 16) = 0 by decide +kernel, val, Int.reduceEq, if_true, if_false]
  rw [← Int.natCast_add, wrap_nat (by omega), cut]
 ·
  simp only [show wrap64 (Int.tdiv 16 16) = 1 by decide +kernel, val, Int.reduceEq, if_true, if_false]
  rw [not_nat hb', show IntKind.u64.wrap (IntKind.u64.wrap ((a : Int) + ((18446744073709551615 - b : Nat) : Int)) + 1) = (((a + (18446744073709551616 - b)) % 18446744073709551616 : Nat) : Int) by rw [IntKind.wrap_u64, IntKind.wrap_u64]; omega, cut]
  simp only [Nat.reducePow]; congr 2; omega
 ·
  simp only [show wrap64 (Int.tdiv 32 16) = 2 by decide +kernel, val, Int.reduceEq, if_true, if_false]
  have h1 : a * b < 4294967296 * 4294967296 := Nat.mul_lt_mul'' ha hb
  rw [← Int.natCast_mul, wrap_nat (by omega), cut]
 ·
  simp only [show wrap64 (Int.tdiv 48 16) = 3 by decide +kernel, val, Int.reduceEq, if_true, if_false]
  by_cases h : b = 0
  · subst h; simp
  ·
   have h1 : a / b ≤ a := Nat.div_le_self _ _
   rw [if_pos (by omega), if_neg (by omega), tdiv_nat, wrap_nat (by omega), cut, Nat.mod_eq_of_lt (by omega)]
 ·
  simp only [show wrap64 (Int.tdiv 64 16) = 4 by decide +kernel, val, Int.reduceEq, if_true, if_false]
  have h1 : a ||| b < 2 ^ 32 := Nat.or_lt_two_pow ha hb
  rw [or_nat ha' hb', cut, Nat.mod_eq_of_lt h1]
 ·
  simp only [show wrap64 (Int.tdiv 80 16) = 5 by decide +kernel, val, Int.reduceEq, if_true, if_false]
  have h1 : a &&& b ≤ a := Nat.and_le_left
  rw [and_nat ha' hb', cut, Nat.mod_eq_of_lt (by omega)]
 ·
  simp only [show wrap64 (Int.tdiv 96 16) = 6 by decide +kernel, val, Int.reduceEq, if_true, if_false]
  have h1 : 2 ^ (b % 32) < 2 ^ 32 := pow_lt (by omega)
  have h2 : a * 2 ^ (b % 32) < 4294967296 * 4294967296 := Nat.mul_lt_mul'' ha h1
  rw [tmod_nat, hp]
  simp only [Option.bind_some]
  rw [← Int.natCast_mul, wrap_nat (by omega), cut]
 ·
  simp only [show wrap64 (Int.tdiv 112 16) = 7 by decide +kernel, val, Int.reduceEq, if_true, if_false]
  rw [tmod_nat, hp]
  simp only [Option.bind_some]
  have h1 : a / 2 ^ (b % 32) ≤ a := Nat.div_le_self _ _
  rw [if_neg (by omega), tdiv_nat, wrap_nat (by omega), cut, Nat.mod_eq_of_lt (by omega)]
 ·
  simp only [show wrap64 (Int.tdiv 128 16) = 8 by decide +kernel, val, Int.reduceEq, if_true, if_false]
  rw [not_nat ha', show IntKind.u64.wrap (((18446744073709551615 - a : Nat) : Int) + 1) = (((18446744073709551616 - a) % 18446744073709551616 : Nat) : Int) by rw [IntKind.wrap_u64]; omega, cut]
  simp only [Nat.reducePow]; congr 2; omega
 ·
  simp only [show wrap64 (Int.tdiv 144 16) = 9 by decide +kernel, val, Int.reduceEq, if_true, if_false]
  by_cases h : b = 0
  · subst h; simp only [Nat.mod_zero]; rw [if_neg (by decide), cut, Nat.mod_eq_of_lt ha]
  ·
   have h1 : a / b ≤ a := Nat.div_le_self _ _
   have h2 : a / b * b ≤ a := Nat.div_mul_le_self _ _
   have h3 : a % b = a - a / b * b := by have := Nat.div_add_mod a b; rw [Nat.mul_comm] at this; omega
   rw [if_pos (by omega), if_neg (by omega), tdiv_nat, wrap_nat (by omega), ← Int.natCast_mul, wrap_nat (by omega), show (a : Int) - ((a / b * b : Nat) : Int) = ((a - a / b * b : Nat) : Int) by omega, wrap_nat (by omega), h3, cut, Nat.mod_eq_of_lt (by omega)]
 ·
  simp only [show wrap64 (Int.tdiv 160 16) = 10 by decide +kernel, val, Int.reduceEq, if_true, if_false]
  have h1 := xor_add_and ha' hb'
  have h2 := or_lt ha' hb'
  have h3 : a ^^^ b < 2 ^ 32 := Nat.xor_lt_two_pow ha hb
  rw [or_nat ha' hb', and_nat ha' hb', show ((a ||| b : Nat) : Int) - ((a &&& b : Nat) : Int) = ((a ^^^ b : Nat) : Int) by omega, wrap_nat (by omega), cut, Nat.mod_eq_of_lt h3]
 ·
  simp only [show wrap64 (Int.tdiv 176 16) = 11 by decide +kernel, val, Int.reduceEq, if_true, if_false]
  rw [cut, Nat.mod_eq_of_lt hb]
 ·
  simp only [show wrap64 (Int.tdiv 192 16) = 12 by decide +kernel, val, Int.reduceEq, if_true, if_false]
  have hq := pow_f 31 k (by omega) (by omega)
  have h1 : a / 2 ^ (b % 32) ≤ a := Nat.div_le_self _ _
  have hd : a / 2 ^ (b % 32) < 2 ^ (32 - b % 32) := by
   rw [Nat.div_lt_iff_lt_mul (Nat.two_pow_pos _), ← Nat.pow_add, show 32 - b % 32 + b % 32 = 32 by omega]; exact ha
  have hle : 2 ^ (32 - b % 32) ≤ 2 ^ 32 := pow_le (by omega)
  have hs := sum_l0 32 (Or.inr rfl) (b % 32) (by omega) (b % 32) k 0 (a / 2 ^ (b % 32)) (by omega) (by omega) (by omega) (by rw [Nat.sub_zero]; omega)
  rw [if_pos (by decide), cut] at hs
  rw [tmod_nat, hp]
  simp only [Option.bind_some]
  rw [if_neg (by omega), h31, hq]
  simp only [Option.bind_some]
  rw [tdiv_nat, wrap_nat (by omega), cut]
  by_cases h : a < 2 ^ (32 - 1)
  · rw [if_neg (by omega), if_pos h, Nat.add_zero, Nat.mod_eq_of_lt (by omega)]
  ·
   rw [if_pos (by omega), if_neg h]
   refine hs.trans ?_
   rw [Nat.sub_zero, Nat.mod_eq_of_lt (by omega)]
theorem ref_ops (k : Nat) (x0 B a b : Int) (hx : x0 ∈ ops) : posternref05_Do.f (k + 1) x0 B a b = if B = 32 then posternref05_Do.j1 k x0 B (Int.tmod a 4294967296) (Int.tmod b 4294967296) else posternref05_Do.j1 k x0 B a b := by
 obtain ⟨h0, h1, h2⟩ := (ops_iff x0).1 hx
 unfold posternref05_Do.f
 rw [if_pos h0, if_neg (by omega), show decide (x0 > 192) = false from decide_eq_false (by omega)]
 simp only [posternref05_Do.j0, Bool.false_eq_true, if_false]
theorem ref_Do64 (k : Nat) (hk : 210 ≤ k) (x0 : Int) (hx : x0 ∈ ops) {a b : Nat} (ha : a < 18446744073709551616) (hb : b < 18446744073709551616) : posternref05_Do.f k x0 64 (a : Int) (b : Int) = some ((val x0 64 a b : Int), true) := by
 obtain ⟨k, rfl⟩ : ∃ q, k = q + 1 := ⟨k - 1, by omega⟩
 rw [ref_ops k x0 _ _ _ hx, if_neg (by decide), ref_j64 k (by omega) x0 hx ha hb]
theorem ref_Do32 (k : Nat) (hk : 210 ≤ k) (x0 : Int) (hx : x0 ∈ ops) (a b : Nat) : posternref05_Do.f k x0 32 (a : Int) (b : Int) = some ((val x0 32 (a % 4294967296) (b % 4294967296) : Int), true) := by
 obtain ⟨k, rfl⟩ : ∃ q, k = q + 1 := ⟨k - 1, by omega⟩
 have e : ∀ c : Nat, Int.tmod (c : Int) 4294967296 = ((c % 4294967296 : Nat) : Int) := fun c => tmod_nat c 4294967296
 rw [ref_ops k x0 _ _ _ hx, if_pos rfl, e, e, ref_j32 k (by omega) x0 hx (by omega) (by omega)]
end Go.Proofs.Ytladlljnpmpdpaa.DoSpanSound
