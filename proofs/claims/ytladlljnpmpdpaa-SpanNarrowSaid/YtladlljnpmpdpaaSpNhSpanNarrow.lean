/- Plain: when a condition of two numbers holds, over 64 and 32 bits; what span.Narrow makes of two spans by it. -/
import Derived.Test.YtladlljnpmpdpaaPSpanNarrowx11
import Derived.Test.YtladlljnpmpdpaaNum
import Derived.Test.YtladlljnpmpdpaaSpNarSpanNarrow
namespace Go.Proofs.Ytladlljnpmpdpaa.SpNhSpanNarrow
open Go.RowKit Go.Proofs.Ytladlljnpmpdpaa.PSpanNarrow Go.Proofs.YtladlljnpmpdpaaW.PrintWords Go.Proofs.YtladlljnpmpdpaaW.PrintLast Go.Proofs.YtladlljnpmpdpaaW.PrintMore
open Go.Proofs.Ytladlljnpmpdpaa.Num Go.Proofs.Ytladlljnpmpdpaa.SpNarSpanNarrow
set_option linter.unusedVariables false
set_option linter.unusedSimpArgs false

theorem pow_l0 (n : Nat) : ∀ (k m : Nat), n < k → n < 18446744073709551616 → m < 18446744073709551616 → posternref05_pow.l0 k (n : Int) (m : Int) = some ((m * 2 ^ n % 18446744073709551616 : Nat) : Int) := by
  induction n with
  | zero =>
    intro k m hk _ hm
    obtain ⟨k, rfl⟩ : ∃ q, k = q + 1 := ⟨k - 1, by omega⟩
    simp only [posternref05_pow.l0]; rw [if_neg (by omega), Nat.pow_zero, Nat.mul_one, Nat.mod_eq_of_lt hm]
  | succ n ih =>
    intro k m hk hn hm
    obtain ⟨k, rfl⟩ : ∃ q, k = q + 1 := ⟨k - 1, by omega⟩
    simp only [posternref05_pow.l0]; rw [if_pos (by omega), IntKind.wrap_u64, IntKind.wrap_u64]
    rw [show (((n + 1 : Nat) : Int) - 1) % 18446744073709551616 = (n : Int) by omega, show ((m : Int) * 2) % 18446744073709551616 = ((m * 2 % 18446744073709551616 : Nat) : Int) by omega]
    rw [ih k _ (by omega) (by omega) (by omega)]
    congr 2
    rw [Nat.mul_mod, Nat.mod_mod, ← Nat.mul_mod, Nat.pow_succ, Nat.mul_assoc, Nat.mul_comm 2]
theorem pow_f (n k : Nat) (hk : n < k) (hn : n < 64) : posternref05_pow.f k (n : Int) = some ((2 ^ n : Nat) : Int) := by
  unfold posternref05_pow.f
  have := pow_l0 n k 1 hk (by omega) (by omega)
  rw [Nat.one_mul, Nat.mod_eq_of_lt (Nat.pow_lt_pow_right (a := 2) (by decide) (show n < 64 from hn))] at this
  exact this

theorem j_agree (m n : Nat) (x0 A B la lb x y : Int) (h16 : (A == B) = (la == lb)) (h80 : (A != B) = (la != lb)) (h32 : decide (A > B) = decide (la > lb)) (h48 : decide (A ≥ B) = decide (la ≥ lb))
    (h160 : decide (A < B) = decide (la < lb)) (h176 : decide (A ≤ B) = decide (la ≤ lb)) (h96 : decide (wrap64 A > wrap64 B) = decide (x > y)) (h112 : decide (wrap64 A ≥ wrap64 B) = decide (x ≥ y))
    (h192 : decide (wrap64 A < wrap64 B) = decide (x < y)) (h208 : decide (wrap64 A ≤ wrap64 B) = decide (x ≤ y)) (h64 : (Go.bits .and .u64 A B != 0) = decide (Go.bits .and .u64 la lb > 0)) :
    ∃ c e ok, alu_Holds.j0 (m + 1) x0 A B = some (c, e) ∧ posternref05_Holds.j1 (n + 1) x0 la lb x y = some (c, ok) ∧ ok = (e == 0) ∧ (ok = false → e = 2) := by
  simp only [alu_Holds.j0, posternref05_Holds.j1]
  by_cases c1 : x0 = 16
  · subst c1; exact ⟨A == B, 0, true, by simp, by simp [h16], by decide, by simp⟩
  by_cases c2 : x0 = 32
  · subst c2; exact ⟨decide (A > B), 0, true, by simp, by rw [h32]; simp, by decide, by simp⟩
  by_cases c3 : x0 = 48
  · subst c3; exact ⟨decide (A ≥ B), 0, true, by simp, by rw [h48]; simp, by decide, by simp⟩
  by_cases c4 : x0 = 64
  · subst c4; exact ⟨Go.bits .and .u64 A B != 0, 0, true, by simp, by rw [h64]; simp, by decide, by simp⟩
  by_cases c5 : x0 = 80
  · subst c5; exact ⟨A != B, 0, true, by simp, by rw [h80]; simp, by decide, by simp⟩
  by_cases c6 : x0 = 96
  · subst c6; exact ⟨decide (wrap64 A > wrap64 B), 0, true, by simp, by rw [h96]; simp, by decide, by simp⟩
  by_cases c7 : x0 = 112
  · subst c7; exact ⟨decide (wrap64 A ≥ wrap64 B), 0, true, by simp, by rw [h112]; simp, by decide, by simp⟩
  by_cases c8 : x0 = 160
  · subst c8; exact ⟨decide (A < B), 0, true, by simp, by rw [h160]; simp, by decide, by simp⟩
  by_cases c9 : x0 = 176
  · subst c9; exact ⟨decide (A ≤ B), 0, true, by simp, by rw [h176]; simp, by decide, by simp⟩
  by_cases c10 : x0 = 192
  · subst c10; exact ⟨decide (wrap64 A < wrap64 B), 0, true, by simp, by rw [h192]; simp, by decide, by simp⟩
  by_cases c11 : x0 = 208
  · subst c11; exact ⟨decide (wrap64 A ≤ wrap64 B), 0, true, by simp, by rw [h208]; simp, by decide, by simp⟩
  exact ⟨false, 2, false, by simp [c1, c2, c3, c4, c5, c6, c7, c8, c9, c10, c11], by simp [c1, c2, c3, c4, c5, c6, c7, c8, c9, c10, c11], by decide, by simp⟩

theorem agree64 (k : Nat) (hk : 70 ≤ k) (x0 : Int) (a b : Nat) (ha : a < 18446744073709551616) (hb : b < 18446744073709551616) :
    ∃ c e ok, alu_Holds.f k x0 true (a : Int) (b : Int) = some (c, e) ∧ posternref05_Holds.f k x0 64 (a : Int) (b : Int) = some (c, ok) ∧ ok = (e == 0) ∧ (ok = false → e = 2) := by
  obtain ⟨k, rfl⟩ : ∃ m, k = m + 2 := ⟨k - 2, by omega⟩
  unfold alu_Holds.f posternref05_Holds.f
  rw [if_pos rfl, if_neg (by decide)]
  simp only [posternref05_Holds.j0]
  rw [show IntKind.u64.wrap (wrap64 (64 - 1)) = ((63 : Nat) : Int) by decide +kernel, pow_f 63 (k + 1) (by omega) (by omega)]
  simp only [Option.bind_some]
  rw [if_neg (by decide), IntKind.wrap_u64, IntKind.wrap_u64]
  have e1 : ((2 ^ 63 : Nat) : Int) = 9223372036854775808 := by decide
  rw [e1]
  refine j_agree (k + 1) k x0 _ _ _ _ _ _ rfl rfl rfl rfl rfl rfl ?_ ?_ ?_ ?_ ?_
  · rw [decide_eq_decide]; unfold wrap64; omega
  · rw [decide_eq_decide]; unfold wrap64; omega
  · rw [decide_eq_decide]; unfold wrap64; omega
  · rw [decide_eq_decide]; unfold wrap64; omega
  · rw [and_nat ha hb, Bool.eq_iff_iff, bne_iff_ne, decide_eq_true_iff]; omega

theorem sx (c : Int) (d : Nat) (h : c % 4294967296 = (d : Int)) : ∃ e : Nat, IntKind.u64.wrap (wrap64 (wrap32 (c % 4294967296))) = (e : Int) ∧ (d < 2147483648 → e = d) ∧ (2147483648 ≤ d → e = d + 18446744069414584320) := by
  rw [h, IntKind.wrap_u64]
  refine ⟨((wrap64 (wrap32 (d : Int))) % 18446744073709551616).toNat, ?_, ?_, ?_⟩
  · omega
  · intro h1; unfold wrap64 wrap32; omega
  · intro h1; unfold wrap64 wrap32; omega
theorem and_ext (a b a' b' : Nat) (ha : a < 4294967296) (hb : b < 4294967296) (ea : a < 2147483648 → a' = a) (ea' : 2147483648 ≤ a → a' = a + 18446744069414584320) (eb : b < 2147483648 → b' = b) (eb' : 2147483648 ≤ b → b' = b + 18446744069414584320) :
    (a' &&& b' = 0) ↔ (a &&& b = 0) := by
  have hlow : (a' &&& b') % 4294967296 = a &&& b := by
    have e := and_mod a' b' 32
    rw [show 2 ^ 32 = 4294967296 by decide] at e
    rw [e]
    have h1 : a' % 4294967296 = a := by omega
    have h2 : b' % 4294967296 = b := by omega
    rw [h1, h2]
  constructor
  · intro h; rw [h] at hlow; omega
  · intro h
    by_cases c1 : a < 2147483648
    · have : a' &&& b' ≤ a' := Nat.and_le_left
      omega
    · by_cases c2 : b < 2147483648
      · have : a' &&& b' ≤ b' := Nat.and_le_right
        omega
      · exfalso
        have t : (a &&& b).testBit 31 = true := by
          rw [Nat.testBit_and, Nat.testBit_eq_decide_div_mod_eq, Nat.testBit_eq_decide_div_mod_eq, Bool.and_eq_true, decide_eq_true_iff, decide_eq_true_iff]
          rw [show 2 ^ 31 = 2147483648 by decide]; omega
        rw [h] at t; simp at t

theorem agree32 (k : Nat) (hk : 70 ≤ k) (x0 : Int) (a b : Nat) (ha : a < 18446744073709551616) (hb : b < 18446744073709551616) :
    ∃ c e ok, alu_Holds.f k x0 false (a : Int) (b : Int) = some (c, e) ∧ posternref05_Holds.f k x0 32 (a : Int) (b : Int) = some (c, ok) ∧ ok = (e == 0) ∧ (ok = false → e = 2) := by
  obtain ⟨k, rfl⟩ : ∃ m, k = m + 2 := ⟨k - 2, by omega⟩
  unfold alu_Holds.f posternref05_Holds.f
  rw [if_neg (by decide), if_pos rfl]
  simp only [posternref05_Holds.j0]
  rw [show IntKind.u64.wrap (wrap64 (32 - 1)) = ((31 : Nat) : Int) by decide +kernel, pow_f 31 (k + 1) (by omega) (by omega)]
  simp only [Option.bind_some, if_true]
  have e1 : ((2 ^ 31 : Nat) : Int) = 2147483648 := by decide
  rw [e1]
  have la : Int.tmod (a : Int) 4294967296 = ((a % 4294967296 : Nat) : Int) := by rw [Int.tmod_eq_emod_of_nonneg (by omega)]; omega
  have lb : Int.tmod (b : Int) 4294967296 = ((b % 4294967296 : Nat) : Int) := by rw [Int.tmod_eq_emod_of_nonneg (by omega)]; omega
  rw [la, lb]
  have xa : ∀ c : Nat, c < 4294967296 → Int.tmod (IntKind.u64.wrap ((c : Int) + 2147483648)) 4294967296 = (((c + 2147483648) % 4294967296 : Nat) : Int) := fun c hc => by
    rw [IntKind.wrap_u64, Int.tmod_eq_emod_of_nonneg (by omega)]; omega
  rw [xa _ (by omega), xa _ (by omega)]
  obtain ⟨p, hp, hp1⟩ : ∃ p : Nat, p = a % 4294967296 ∧ p < 4294967296 := ⟨_, rfl, by omega⟩
  obtain ⟨q, hq, hq1⟩ : ∃ q : Nat, q = b % 4294967296 ∧ q < 4294967296 := ⟨_, rfl, by omega⟩
  rw [← hp, ← hq]
  obtain ⟨A, hA, hA1, hA2⟩ := sx (a : Int) p (by omega)
  obtain ⟨B, hB, hB1, hB2⟩ := sx (b : Int) q (by omega)
  rw [hA, hB]
  clear hA hB la lb xa hp hq
  have hA3 : A < 18446744073709551616 := by omega
  have hB3 : B < 18446744073709551616 := by omega
  have hAB := and_ext p q A B hp1 hq1 hA1 hA2 hB1 hB2
  refine j_agree (k + 1) k x0 _ _ _ _ _ _ ?_ ?_ ?_ ?_ ?_ ?_ ?_ ?_ ?_ ?_ ?_
  · rw [Bool.eq_iff_iff, beq_iff_eq, beq_iff_eq]; omega
  · rw [Bool.eq_iff_iff, bne_iff_ne, bne_iff_ne]; omega
  · rw [decide_eq_decide]; omega
  · rw [decide_eq_decide]; omega
  · rw [decide_eq_decide]; omega
  · rw [decide_eq_decide]; omega
  · rw [decide_eq_decide]; unfold wrap64; omega
  · rw [decide_eq_decide]; unfold wrap64; omega
  · rw [decide_eq_decide]; unfold wrap64; omega
  · rw [decide_eq_decide]; unfold wrap64; omega
  · rw [and_nat hA3 hB3, and_nat (by omega) (by omega), Bool.eq_iff_iff, bne_iff_ne, decide_eq_true_iff]
    omega

/-! ### When it holds -/
def usg (k : Int) : Int := if k = 96 then 32 else if k = 112 then 48 else if k = 192 then 160 else 176
def signs : List Int := [96, 112, 192, 208]
def cnd (k : Int) (H x y : Nat) : Bool :=
  if k ∈ kinds then ou k (x : Int) (y : Int) else if k = 64 then decide (0 < x &&& y) else ou (usg k) (((x + H) % (2 * H) : Nat) : Int) (((y + H) % (2 * H) : Nat) : Int)
def low (w : Bool) (x : Nat) : Nat := if w then x else x % 4294967296
def half (w : Bool) : Nat := if w then 9223372036854775808 else 2147483648
def hold (k : Int) (w : Bool) (x y : Nat) : Bool := cnd k (half w) (low w x) (low w y)
theorem low_small {w : Bool} {x : Nat} (h : w = true ∨ x < 4294967296) : low w x = x := by
  cases w with
  | true => rfl
  | false => exact Nat.mod_eq_of_lt (h.resolve_left (by decide))
def conds : List Int := kinds ++ 64 :: signs

theorem ref_j1 (k : Nat) (x0 : Int) (H x y : Nat) (hx : x < 18446744073709551616) (hy : y < 18446744073709551616) :
    posternref05_Holds.j1 (k + 1) x0 (x : Int) (y : Int) (((x + H) % (2 * H) : Nat) : Int) (((y + H) % (2 * H) : Nat) : Int) = some (if x0 ∈ conds then cnd x0 H x y else false, decide (x0 ∈ conds)) := by
  by_cases hc : x0 ∈ conds
  · rw [if_pos hc, decide_eq_true hc]
    simp only [conds, kinds, signs, List.cons_append, List.nil_append, List.mem_cons, List.not_mem_nil, or_false] at hc
    rcases hc with rfl | rfl | rfl | rfl | rfl | rfl | rfl | rfl | rfl | rfl | rfl <;>
      simp only [posternref05_Holds.j1, cnd, ou, usg, kinds, List.mem_cons, List.not_mem_nil, Int.reduceEq, if_true, if_false, or_false, or_true, true_or, false_or, or_self]
    rw [and_nat hx hy]
    congr 2
    rw [decide_eq_decide]; omega
  · rw [if_neg hc, decide_eq_false hc]
    simp only [conds, kinds, signs, List.cons_append, List.nil_append, List.mem_cons, List.not_mem_nil, or_false, not_or] at hc
    obtain ⟨h1, h2, h3, h4, h5, h6, h7, h8, h9, h10, h11⟩ := hc
    simp [posternref05_Holds.j1, h1, h2, h3, h4, h5, h6, h7, h8, h9, h10, h11]
theorem ref_hold (k : Nat) (hk : 70 ≤ k) (x0 : Int) (w : Bool) (x y : Nat) (hx : x < 18446744073709551616) (hy : y < 18446744073709551616) :
    posternref05_Holds.f k x0 (if w then 64 else 32) (x : Int) (y : Int) = some (if x0 ∈ conds then hold x0 w x y else false, decide (x0 ∈ conds)) := by
  obtain ⟨k, rfl⟩ : ∃ m, k = m + 2 := ⟨k - 2, by omega⟩
  unfold posternref05_Holds.f hold low half
  cases w with
  | true =>
    simp only [if_true]
    rw [if_neg (by decide), posternref05_Holds.j0, show IntKind.u64.wrap (wrap64 (64 - 1)) = ((63 : Nat) : Int) by decide +kernel, pow_f 63 (k + 1) (by omega) (by omega)]
    simp only [Option.bind_some]
    rw [if_neg (by decide), IntKind.wrap_u64, IntKind.wrap_u64, show ((2 ^ 63 : Nat) : Int) = 9223372036854775808 by decide]
    have h := ref_j1 k x0 9223372036854775808 x y hx hy
    rw [show ((x : Int) + 9223372036854775808) % 18446744073709551616 = (((x + 9223372036854775808) % (2 * 9223372036854775808) : Nat) : Int) by omega, show ((y : Int) + 9223372036854775808) % 18446744073709551616 = (((y + 9223372036854775808) % (2 * 9223372036854775808) : Nat) : Int) by omega]
    exact h
  | false =>
    simp only [Bool.false_eq_true, if_false]
    have la : ∀ a : Nat, Int.tmod (a : Int) 4294967296 = ((a % 4294967296 : Nat) : Int) := fun a => by rw [Int.tmod_eq_emod_of_nonneg (by omega)]; omega
    have xa : ∀ c : Nat, c < 4294967296 → Int.tmod (IntKind.u64.wrap ((c : Int) + 2147483648)) 4294967296 = (((c + 2147483648) % (2 * 2147483648) : Nat) : Int) := fun c hc => by
      rw [IntKind.wrap_u64, Int.tmod_eq_emod_of_nonneg (by omega)]; omega
    rw [if_pos trivial, la, la, posternref05_Holds.j0, show IntKind.u64.wrap (wrap64 (32 - 1)) = ((31 : Nat) : Int) by decide +kernel, pow_f 31 (k + 1) (by omega) (by omega)]
    simp only [Option.bind_some, if_true]
    rw [show ((2 ^ 31 : Nat) : Int) = 2147483648 by decide, xa _ (by omega), xa _ (by omega)]
    exact ref_j1 k x0 2147483648 (x % 4294967296) (y % 4294967296) (by omega) (by omega)
theorem alu_hold (k : Nat) (hk : 70 ≤ k) (x0 : Int) (w : Bool) (x y : Nat) (hx : x < 18446744073709551616) (hy : y < 18446744073709551616) :
    alu_Holds.f k x0 w (x : Int) (y : Int) = some (if x0 ∈ conds then hold x0 w x y else false, if x0 ∈ conds then 0 else 2) := by
  have hr := ref_hold k hk x0 w x y hx hy
  have h : ∃ c e ok, alu_Holds.f k x0 w (x : Int) (y : Int) = some (c, e) ∧ posternref05_Holds.f k x0 (if w then 64 else 32) (x : Int) (y : Int) = some (c, ok) ∧ ok = (e == 0) ∧ (ok = false → e = 2) := by
    cases w with
    | true => exact agree64 k hk x0 x y hx hy
    | false => exact agree32 k hk x0 x y hx hy
  obtain ⟨c, e, ok, h1, h2, h3, h4⟩ := h
  rw [hr] at h2
  simp only [Option.some.injEq, Prod.mk.injEq] at h2
  obtain ⟨rfl, h5⟩ := h2
  rw [h1]
  by_cases hc : x0 ∈ conds
  · rw [decide_eq_true hc] at h5
    subst h5
    have : e = 0 := by simpa using h3.symm
    subst this
    rw [if_pos hc, if_pos hc]
  · rw [decide_eq_false hc] at h5
    subst h5
    rw [h4 rfl, if_neg hc, if_neg hc]

/-! ### Narrowing -/
theorem fine_all {T : Int → Int → Prop} {p q r s : Int} (h1 : p ≤ q) (h2 : r ≤ s) : Fine T p q r s p q r s true :=
  ⟨fun x y g1 g2 g3 g4 _ => ⟨rfl, g1, g2, g3, g4⟩, fun _ => ⟨h1, h2, Int.le_refl _, Int.le_refl _, Int.le_refl _, Int.le_refl _⟩⟩
theorem fine_cong {T T' : Int → Int → Prop} {p q r s a1 a2 b1 b2 : Int} {ok : Bool} (h : Fine T p q r s a1 a2 b1 b2 ok) (ht : ∀ x y, p ≤ x → x ≤ q → r ≤ y → y ≤ s → T' x y → T x y) : Fine T' p q r s a1 a2 b1 b2 ok :=
  ⟨fun x y h1 h2 h3 h4 h5 => h.1 x y h1 h2 h3 h4 (ht x y h1 h2 h3 h4 h5), h.2⟩

/-- What an answer of 'narrow' is good for. -/
def Good (x0 : Int) (w h : Bool) (p q r s : Nat) (a1 a2 b1 b2 : Int) (ok : Bool) : Prop :=
  Fine (fun x y => hold x0 w x.toNat y.toNat = h) p q r s a1 a2 b1 b2 ok ∧ (p = q → r = s → ok = (hold x0 w p r == h)) ∧
    (w = true → x0 = 16 → h = true → (ok = true → a1 = b1 ∧ a2 = b2) ∧ (ok = false → s < p ∨ q < r)) ∧ (w = true → x0 ∈ kinds → x0 ≠ 16 → x0 ≠ 80 → Tight (fun x y => ou x0 x y = h) p q r s a1 a2 b1 b2 ok)

theorem cnd_kinds {x0 : Int} (hx : x0 ∈ kinds) (H x y : Nat) : cnd x0 H x y = ou x0 (x : Int) (y : Int) := by unfold cnd; rw [if_pos hx]
theorem hold_small {x0 : Int} {w : Bool} {x y : Nat} (hw : w = true ∨ (x < 4294967296 ∧ y < 4294967296)) : hold x0 w x y = cnd x0 (half w) x y := by
  unfold hold
  rw [low_small (hw.imp id And.left), low_small (hw.imp id And.right)]
theorem usg_kinds {x0 : Int} (hx : x0 ∈ signs) : usg x0 ∈ kinds ∧ usg x0 ≠ 16 ∧ usg x0 ≠ 80 := by
  simp only [signs, List.mem_cons, List.not_mem_nil, or_false] at hx
  rcases hx with rfl | rfl | rfl | rfl <;> decide
theorem ou_bias {k : Int} (hk : k ∈ kinds) (H x y : Nat) (hx : x < H) (hy : y < H) : ou k (((x + H) % (2 * H) : Nat) : Int) (((y + H) % (2 * H) : Nat) : Int) = ou k (x : Int) (y : Int) := by
  rw [Nat.mod_eq_of_lt (by omega), Nat.mod_eq_of_lt (by omega)]
  simp only [kinds, List.mem_cons, List.not_mem_nil, or_false] at hk
  rcases hk with rfl | rfl | rfl | rfl | rfl | rfl
  · simp only [ou, if_true]; rw [Bool.eq_iff_iff, beq_iff_eq, beq_iff_eq]; omega
  · simp only [ou, Int.reduceEq, if_true, if_false]; rw [Bool.eq_iff_iff, bne_iff_ne, bne_iff_ne]; omega
  all_goals (simp only [ou, Int.reduceEq, if_true, if_false]; rw [decide_eq_decide]; omega)

theorem narrow_not (k : Nat) (x0 : Int) (hx0 : x0 ∈ conds) (w h : Bool) (p q r s : Nat) (hpq : p ≤ q) (hq : q < 18446744073709551616) (hrs : r ≤ s) (hs : s < 18446744073709551616) (hw : w = true ∨ (q < 4294967296 ∧ s < 4294967296)) (hn : ¬ (p = q ∧ r = s)) :
    ∃ a1 a2 b1 b2 ok, span_narrow.j2 (k + 6) x0 h (if w then 9223372036854775807 else 2147483647) (p : Int) (q : Int) (r : Int) (s : Int) = some (a1, a2, b1, b2, ok) ∧ Good x0 w h p q r s a1 a2 b1 b2 ok := by
  have hsm : ∀ x y : Int, (p : Int) ≤ x → x ≤ q → (r : Int) ≤ y → y ≤ s → hold x0 w x.toNat y.toNat = cnd x0 (half w) x.toNat y.toNat := fun x y h1 h2 h3 h4 =>
    hold_small (hw.imp id fun h => ⟨by omega, by omega⟩)
  have hno : p = q → r = s → ∀ ok, ok = (hold x0 w p r == h) := fun h1 h2 => absurd ⟨h1, h2⟩ hn
  have hc := hx0
  simp only [conds, List.mem_append, List.mem_cons] at hc
  have j2e : span_narrow.j2 (k + 6) x0 h (if w then 9223372036854775807 else 2147483647) (p : Int) (q : Int) (r : Int) (s : Int) = span_narrow.j3 (k + 5) x0 h (if w then 9223372036854775807 else 2147483647) (decide (x0 ∈ signs)) (p : Int) (q : Int) (r : Int) (s : Int) := by
    rw [span_narrow.j2]
    rcases hc with hc | rfl | hc
    · simp only [kinds, List.mem_cons, List.not_mem_nil, or_false] at hc
      rcases hc with rfl | rfl | rfl | rfl | rfl | rfl <;> rfl
    · rfl
    · simp only [signs, List.mem_cons, List.not_mem_nil, or_false] at hc
      rcases hc with rfl | rfl | rfl | rfl <;> rfl
  rw [j2e]
  rcases hc with hc | rfl | hc
  · -- an order without signs
    have hs0 : x0 ∉ signs := by
      simp only [kinds, List.mem_cons, List.not_mem_nil, or_false] at hc
      rcases hc with rfl | rfl | rfl | rfl | rfl | rfl <;> decide
    obtain ⟨a1, a2, b1, b2, ok, e, f, g1, g2⟩ := order_f (p := (p : Int)) (q := (q : Int)) (r := (r : Int)) (s := (s : Int)) (by omega) (by omega) (by omega) (by omega) (by omega) (by omega) (k + 1) x0 hc h
    rw [decide_eq_false hs0, span_narrow.j3, if_neg (by decide), e]
    refine ⟨a1, a2, b1, b2, ok, rfl, fine_cong f fun x y h1 h2 h3 h4 hh => ?_, fun h1 h2 => hno h1 h2 _, fun _ h1 h2 => ⟨fun hok => ⟨(g1 h1 h2).1, (g1 h1 h2).2.1⟩, fun hok => by have := (g1 h1 h2).2.2 hok; omega⟩, fun _ _ h1 h2 => g2 h1 h2⟩
    change hold x0 w x.toNat y.toNat = h at hh
    rw [hsm x y h1 h2 h3 h4, cnd_kinds hc] at hh
    rw [show ((x.toNat : Nat) : Int) = x by omega, show ((y.toNat : Nat) : Int) = y by omega] at hh
    exact hh
  · -- bits in common
    rw [show decide ((64 : Int) ∈ signs) = false by decide, span_narrow.j3, if_neg (by decide)]
    cases h with
    | false =>
      rw [show span_order.f (k + 4) 64 false (p : Int) (q : Int) (r : Int) (s : Int) = some ((p : Int), (q : Int), (r : Int), (s : Int), true) by simp [span_order.f]]
      exact ⟨_, _, _, _, _, rfl, fine_all (by omega) (by omega), fun h1 h2 => hno h1 h2 _, fun _ h => absurd h (by decide), fun _ h => absurd h (by decide)⟩
    | true =>
      have e : span_order.f (k + 4) 64 true (p : Int) (q : Int) (r : Int) (s : Int) = some ((p : Int), (q : Int), (r : Int), (s : Int), decide (0 < q ∧ 0 < s)) := by
        simp only [span_order.f, span_order.j0, span_order.j1, Int.reduceEq, Int.reduceBEq, Bool.false_eq_true, if_true, if_false]
        by_cases h1 : q > 0
        · rw [if_pos (by omega)]; congr 5; rw [decide_eq_decide]; omega
        · rw [if_neg (by omega)]; congr 5; rw [decide_eq_false (by omega)]
      rw [e]
      refine ⟨(p : Int), (q : Int), (r : Int), (s : Int), decide (0 < q ∧ 0 < s), rfl, ⟨fun x y h1 h2 h3 h4 hh => ⟨?_, h1, h2, h3, h4⟩, fun _ => ⟨by omega, by omega, Int.le_refl _, Int.le_refl _, Int.le_refl _, Int.le_refl _⟩⟩, fun h1 h2 => hno h1 h2 _, fun _ h => absurd h (by decide), fun _ h => absurd h (by decide)⟩
      change hold 64 w x.toNat y.toNat = true at hh
      rw [hsm x y h1 h2 h3 h4, cnd, if_neg (by decide), if_pos rfl] at hh
      have hh := of_decide_eq_true hh
      have z1 : x.toNat &&& y.toNat ≤ x.toNat := Nat.and_le_left
      have z2 : x.toNat &&& y.toNat ≤ y.toNat := Nat.and_le_right
      exact decide_eq_true ⟨by omega, by omega⟩
  · -- an order with signs
    have hk0 : x0 ∉ kinds := by
      simp only [signs, List.mem_cons, List.not_mem_nil, or_false] at hc
      rcases hc with rfl | rfl | rfl | rfl <;> decide
    have h16 : x0 ≠ 16 := fun h => hk0 (by rw [h]; decide)
    have h64 : x0 ≠ 64 := by
      simp only [signs, List.mem_cons, List.not_mem_nil, or_false] at hc
      rcases hc with rfl | rfl | rfl | rfl <;> decide
    rw [decide_eq_true hc, span_narrow.j3, if_pos rfl]
    by_cases h1 : (q : Int) > (if w then 9223372036854775807 else 2147483647)
    · rw [if_pos h1]
      exact ⟨_, _, _, _, _, rfl, fine_all (by omega) (by omega), fun h1 h2 => hno h1 h2 _, fun _ h => absurd h h16, fun _ h => absurd h hk0⟩
    · rw [if_neg h1]
      by_cases h2 : (s : Int) > (if w then 9223372036854775807 else 2147483647)
      · rw [if_pos h2]
        exact ⟨_, _, _, _, _, rfl, fine_all (by omega) (by omega), fun h1 h2 => hno h1 h2 _, fun _ h => absurd h h16, fun _ h => absurd h hk0⟩
      · rw [if_neg h2]
        obtain ⟨a1, a2, b1, b2, ok, e, f, g1, g2⟩ := order_f (p := (p : Int)) (q := (q : Int)) (r := (r : Int)) (s := (s : Int)) (by omega) (by omega) (by omega) (by omega) (by omega) (by omega) (k + 1) (usg x0) (usg_kinds hc).1 h
        refine ⟨a1, a2, b1, b2, ok, ?_, fine_cong f fun x y u1 u2 u3 u4 hh => ?_, fun h1 h2 => hno h1 h2 _, fun _ h => absurd h h16, fun _ h => absurd h hk0⟩
        · have ek : rd ([32, 48, 160, 176] : List Int) (wrap64 ((Go.bits .and .i64 (x0 / 16) 1) + (Go.bits .and .i64 (x0 / 64) 2))) = usg x0 ∧ 0 ≤ (wrap64 ((Go.bits .and .i64 (x0 / 16) 1) + (Go.bits .and .i64 (x0 / 64) 2))) ∧ (wrap64 ((Go.bits .and .i64 (x0 / 16) 1) + (Go.bits .and .i64 (x0 / 64) 2))) < 4 := by
            simp only [signs, List.mem_cons, List.not_mem_nil, or_false] at hc
            rcases hc with rfl | rfl | rfl | rfl <;> decide +kernel
          simp only [Option.bind_some]
          rw [if_pos ek.2.1, if_pos (show _ < ((List.length ([32, 48, 160, 176] : List Int) : Nat) : Int) from ek.2.2), ek.1, e]
          rfl
        · change hold x0 w x.toNat y.toNat = h at hh
          rw [hsm x y u1 u2 u3 u4, cnd, if_neg hk0, if_neg h64, ou_bias (usg_kinds hc).1] at hh
          · rw [show ((x.toNat : Nat) : Int) = x by omega, show ((y.toNat : Nat) : Int) = y by omega] at hh
            exact hh
          · unfold half; cases w <;> simp only [Bool.false_eq_true, if_true, if_false] at h1 h2 ⊢ <;> omega
          · unfold half; cases w <;> simp only [Bool.false_eq_true, if_true, if_false] at h1 h2 ⊢ <;> omega

theorem narrow_f (k : Nat) (hk : 80 ≤ k) (x0 : Int) (hx0 : x0 ∈ conds) (w h : Bool) (p q r s : Nat) (hpq : p ≤ q) (hq : q < 18446744073709551616) (hrs : r ≤ s) (hs : s < 18446744073709551616) :
    ∃ a1 a2 b1 b2 ok, span_narrow.f k x0 w h (p : Int) (q : Int) (r : Int) (s : Int) = some (a1, a2, b1, b2, ok) ∧ Good x0 w h p q r s a1 a2 b1 b2 ok := by
  obtain ⟨k, rfl⟩ : ∃ m, k = m + 8 := ⟨k - 8, by omega⟩
  unfold span_narrow.f
  simp only [span_one.f, Option.bind_some]
  by_cases hn : p = q ∧ r = s
  · obtain ⟨rfl, rfl⟩ := hn
    rw [if_pos (by simp), beq_self_eq_true, span_narrow.j0, if_pos rfl, alu_hold (k + 7) (by omega) x0 w p r hq hs, if_pos hx0]
    refine ⟨_, _, _, _, _, rfl, ⟨fun x y h1 h2 h3 h4 hh => ⟨?_, h1, h2, h3, h4⟩, fun _ => ⟨Int.le_refl _, Int.le_refl _, Int.le_refl _, Int.le_refl _, Int.le_refl _, Int.le_refl _⟩⟩, fun _ _ => rfl, fun hw h1 h2 => ?_, fun hw h1 h2 h3 => ?_⟩
    · change hold x0 w x.toNat y.toNat = h at hh
      rw [show x.toNat = p by omega, show y.toNat = r by omega] at hh
      rw [hh]; simp
    · subst hw; subst h1; subst h2
      have e : hold 16 true p r = ((p : Int) == (r : Int)) := rfl
      rw [e]
      refine ⟨fun hok => ?_, fun hok => ?_⟩
      · have : (p : Int) = (r : Int) := by simpa using hok
        exact ⟨this, this⟩
      · have : ¬ (p : Int) = (r : Int) := by simpa using hok
        omega
    · subst hw
      have e : hold x0 true p r = ou x0 (p : Int) (r : Int) := by rw [hold_small (.inl rfl), cnd_kinds h1]
      rw [e]
      refine ⟨fun hok => ?_, fun hok => ?_⟩
      · have : ou x0 (p : Int) (r : Int) = h := by simpa using hok
        exact ⟨.inl this, .inl this, .inl this, .inl this⟩
      · have : ¬ ou x0 (p : Int) (r : Int) = h := by simpa using hok
        exact ⟨this, this, this, this⟩
  · have e0 : (if (p : Int) == (q : Int) then some ((r : Int) == (s : Int)) else some false : Option Bool) = some false := by
      by_cases h1 : p = q
      · rw [if_pos (by rw [beq_iff_eq]; omega), beq_eq_false_iff_ne.mpr (fun h2 => hn ⟨h1, by omega⟩)]
      · rw [if_neg (by rw [beq_iff_eq]; omega)]
    have ej : (if ((p : Int) == (q : Int)) = true then span_narrow.j0 (k + 8) x0 w h ((r : Int) == (s : Int)) (p : Int) (q : Int) (r : Int) (s : Int) else span_narrow.j0 (k + 8) x0 w h false (p : Int) (q : Int) (r : Int) (s : Int)) = span_narrow.j0 (k + 8) x0 w h false (p : Int) (q : Int) (r : Int) (s : Int) := by
      by_cases h1 : p = q
      · rw [if_pos (by rw [beq_iff_eq]; omega), beq_eq_false_iff_ne.mpr (fun h2 => hn ⟨h1, by omega⟩)]
      · rw [if_neg (by rw [beq_iff_eq]; omega)]
    rw [ej, span_narrow.j0, if_neg (by decide)]
    cases w with
    | true =>
      rw [if_pos rfl, span_narrow.j1, if_neg (by decide), if_pos rfl]
      exact narrow_not k x0 hx0 true h p q r s hpq hq hrs hs (.inl rfl) hn
    | false =>
      rw [if_neg (by decide), or_nat hq hs, span_narrow.j1]
      by_cases hb : q < 4294967296 ∧ s < 4294967296
      · have hor : q ||| s < 2 ^ 32 := Nat.or_lt_two_pow hb.1 hb.2
        rw [if_neg (by rw [bne_iff_ne]; omega), if_neg (by decide)]
        exact narrow_not k x0 hx0 false h p q r s hpq hq hrs hs (.inr hb) hn
      · have h1 : q ≤ q ||| s := Nat.left_le_or
        have h2 : s ≤ q ||| s := Nat.right_le_or
        rw [if_pos (by rw [bne_iff_ne]; omega)]
        exact ⟨_, _, _, _, _, rfl, fine_all (by omega) (by omega), fun h1 h2 => absurd ⟨h1, h2⟩ hn, fun h => absurd h (by decide), fun h => absurd h (by decide)⟩

/-! ### Narrow -/
/-- The ends of a span as it is meant. -/
def tlo (a b : Nat) : Nat := if a > b then 0 else a
def thi (a b : Nat) : Nat := if a > b then 18446744073709551615 else b
theorem t_le {a b : Nat} (hb : b < 18446744073709551616) : tlo a b ≤ thi a b ∧ thi a b < 18446744073709551616 := by
  unfold tlo thi
  by_cases h : a > b
  · rw [if_pos h, if_pos h]; omega
  · rw [if_neg h, if_neg h]; omega
theorem t_eq {a b : Nat} (h : a ≤ b) : tlo a b = a ∧ thi a b = b := by
  unfold tlo thi
  rw [if_neg (by omega), if_neg (by omega)]; exact ⟨rfl, rfl⟩
theorem f_tidy (a b : Nat) : span_tidy.f (a : Int) (b : Int) = some ((tlo a b : Int), (thi a b : Int)) := by
  unfold span_tidy.f tlo thi
  by_cases h : a > b
  · rw [if_pos (by omega), if_pos h, if_pos h]; rfl
  · rw [if_neg (by omega), if_neg h, if_neg h]
theorem f_Lo (a b : Nat) : posternref15_Lo.f (a : Int) (b : Int) = some (tlo a b : Int) := by
  unfold posternref15_Lo.f tlo
  by_cases h : a > b
  · rw [if_pos (by omega), if_pos h]; rfl
  · rw [if_neg (by omega), if_neg h]
theorem f_Hi (a b : Nat) : posternref15_Hi.f (a : Int) (b : Int) = some (thi a b : Int) := by
  unfold posternref15_Hi.f thi
  by_cases h : a > b
  · rw [if_pos (by omega), if_pos h]; rfl
  · rw [if_neg (by omega), if_neg h]
theorem Narrow_in (k : Nat) (hk : 80 ≤ k) (x0 : Int) (hx0 : x0 ∈ conds) (w h : Bool) (a b c d : Nat) (hb : b < 18446744073709551616) (hd : d < 18446744073709551616) :
    ∃ a1 a2 b1 b2 ok, span_Narrow.f k x0 w h (a : Int) (b : Int) (c : Int) (d : Int) = some (if ok = true then (a1, a2, b1, b2, true, 0) else (0, 0, 0, 0, false, 0)) ∧ Good x0 w h (tlo a b) (thi a b) (tlo c d) (thi c d) a1 a2 b1 b2 ok := by
  obtain ⟨h1, h2⟩ := t_le (a := a) hb
  obtain ⟨h3, h4⟩ := t_le (a := c) hd
  obtain ⟨a1, a2, b1, b2, ok, e, g⟩ := narrow_f k hk x0 hx0 w h _ _ _ _ h1 h2 h3 h4
  refine ⟨a1, a2, b1, b2, ok, ?_, g⟩
  have h0 := alu_hold k (by omega) x0 w 0 0 (by decide) (by decide)
  rw [if_pos hx0, if_pos hx0] at h0
  unfold span_Narrow.f
  rw [show alu_Holds.f k x0 w 0 0 = some (hold x0 w 0 0, 0) from h0]
  simp only [Option.bind_some, if_true]
  rw [f_tidy, f_tidy]
  simp only [Option.bind_some]
  rw [e]
  simp only [Option.bind_some]
  cases ok <;> rfl
theorem Narrow_not (k : Nat) (hk : 80 ≤ k) (x0 : Int) (hx0 : x0 ∉ conds) (w h : Bool) (a b c d : Int) : span_Narrow.f k x0 w h a b c d = some (0, 0, 0, 0, false, 2) := by
  have h0 := alu_hold k (by omega) x0 w 0 0 (by decide) (by decide)
  rw [if_neg hx0, if_neg hx0] at h0
  unfold span_Narrow.f
  rw [show alu_Holds.f k x0 w 0 0 = some (false, 2) from h0]
  simp only [Option.bind_some]
  rw [if_neg (by decide)]
theorem Narrow_const (k : Nat) (hk : 80 ≤ k) (x0 : Int) (hx0 : x0 ∈ conds) (w h : Bool) (x y : Nat) (hx : x < 18446744073709551616) (hy : y < 18446744073709551616) :
    ∃ c1 c2 c3 c4, span_Narrow.f k x0 w h (x : Int) (x : Int) (y : Int) (y : Int) = some (c1, c2, c3, c4, (hold x0 w x y == h), 0) := by
  obtain ⟨a1, a2, b1, b2, ok, e, g⟩ := Narrow_in k hk x0 hx0 w h x x y y hx hy
  obtain ⟨t1, t2⟩ := t_eq (Nat.le_refl x)
  obtain ⟨t3, t4⟩ := t_eq (Nat.le_refl y)
  rw [t1, t2, t3, t4] at g
  have := g.2.1 rfl rfl
  rw [e, ← this]
  cases ok
  · exact ⟨_, _, _, _, rfl⟩
  · exact ⟨_, _, _, _, rfl⟩
end Go.Proofs.Ytladlljnpmpdpaa.SpNhSpanNarrow
