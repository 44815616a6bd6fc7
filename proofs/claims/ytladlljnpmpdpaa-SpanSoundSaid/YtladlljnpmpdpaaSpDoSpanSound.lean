/- Plain: what span.Do makes of two spans holds whatever the operation makes of numbers of the two. -/
import Derived.Test.YtladlljnpmpdpaaPSpanSoundx
import Derived.Test.YtladlljnpmpdpaaDoSpanSound
import Derived.Lib.BitFns
namespace Go.Proofs.Ytladlljnpmpdpaa.SpDoSpanSound
open Go.RowKit Go.Proofs.Ytladlljnpmpdpaa.PSpanSound Go.Proofs.YtladlljnpmpdpaaW.PrintWords Go.Proofs.YtladlljnpmpdpaaW.PrintLast Go.Proofs.YtladlljnpmpdpaaW.PrintMore
open Go.Proofs.Ytladlljnpmpdpaa.Num Go.Proofs.Ytladlljnpmpdpaa.DoSpanSound
set_option linter.unusedVariables false
set_option linter.unusedSimpArgs false
theorem bitLenAux_spec (f : Nat) : ∀ x : Nat, x < 2 ^ f → Lib.bitLenAux f x ≤ f ∧ x < 2 ^ Lib.bitLenAux f x ∧ (0 < Lib.bitLenAux f x → 2 ^ (Lib.bitLenAux f x - 1) ≤ x) := by
 induction f with
 | zero => intro x hx; refine ⟨Nat.le_refl _, hx, fun h => absurd h (by simp [Lib.bitLenAux])⟩
 | succ f ih =>
  intro x hx
  unfold Lib.bitLenAux
  by_cases h : x = 0
  · rw [if_pos h]; subst h; simp
  ·
   rw [if_neg h]
   rw [Nat.pow_succ] at hx
   obtain ⟨h1, h2, h3⟩ := ih (x / 2) (by omega)
   generalize Lib.bitLenAux f (x / 2) = n at *
   refine ⟨by omega, ?_, fun _ => ?_⟩
   · rw [Nat.add_comm, Nat.pow_succ]; omega
   ·
    rw [show 1 + n - 1 = n by omega]
    by_cases hn : n = 0
    · subst hn; simp; omega
    ·
     have := h3 (by omega)
     rw [show n = (n - 1) + 1 by omega, Nat.pow_succ]
     omega
def tlo (a b : Nat) : Nat := if a > b then 0 else a
def thi (a b : Nat) : Nat := if a > b then 18446744073709551615 else b
theorem t_le {a b : Nat} (hb : b < 18446744073709551616) : tlo a b ≤ thi a b ∧ thi a b < 18446744073709551616 := by
 unfold tlo thi
 by_cases h : a > b
 · rw [if_pos h, if_pos h]; omega
 · rw [if_neg h, if_neg h]; omega
theorem t_eq {a b : Nat} (h : a ≤ b) : tlo a b = a ∧ thi a b = b := by
 unfold tlo thi
 rw [if_neg (by omega), if_neg (by omega)]; exact ⟨rfl, rfl⟩
theorem f_tidy (a b : Nat) : span_tidy.f (a : Int) (b : Int) = some ((tlo a b : Int), (thi a b : Int)) := by
 unfold span_tidy.f tlo thi
 by_cases h : a > b
 · rw [if_pos (by omega), if_pos h, if_pos h]; rfl
 · rw [if_neg (by omega), if_neg h, if_neg h]
theorem f_one (a b : Nat) : span_one.f (a : Int) (b : Int) = some (decide (a = b)) := by
 unfold span_one.f
 congr 1
 rw [Bool.eq_iff_iff, beq_iff_eq, decide_eq_true_eq]; omega
theorem f_cut (a b : Nat) (hb : b < 18446744073709551616) (h : a ≤ b) : ∃ c d : Nat, span_cut.f (a : Int) (b : Int) = some ((c : Int), (d : Int)) ∧ c ≤ d ∧ d < 4294967296 ∧ (∀ x, a ≤ x → x ≤ b → c ≤ x % 4294967296 ∧ x % 4294967296 ≤ d) ∧ (a = b → c = d ∧ c = a % 4294967296) := by
 unfold span_cut.f
 by_cases h1 : b / 4294967296 = 0
 ·
  rw [if_pos (by omega)]
  exact ⟨a, b, rfl, h, by omega, fun x _ _ => by omega, fun e => by omega⟩
 ·
  rw [if_neg (by omega), f_one]
  simp only [Option.bind_some, decide_eq_true_eq]
  by_cases h2 : a = b
  ·
   rw [if_pos h2, show ((a : Int) % 4294967296) = ((a % 4294967296 : Nat) : Int) by omega]
   exact ⟨a % 4294967296, a % 4294967296, rfl, by omega, by omega, fun x _ _ => by omega, fun _ => ⟨rfl, rfl⟩⟩
  ·
   rw [if_neg h2]
   exact ⟨0, 4294967295, rfl, by omega, by omega, fun x _ _ => by omega, fun e => absurd e h2⟩
theorem f_below (v B : Nat) (hB : B ≤ 64) (hv : v < 2 ^ B) : ∃ n : Nat, span_below.f (v : Int) = some ((2 ^ n - 1 : Nat) : Int) ∧ v < 2 ^ n ∧ n ≤ B := by
 have h64 : v < 2 ^ 64 := Nat.lt_of_lt_of_le hv (Nat.pow_le_pow_right (by decide) hB)
 obtain ⟨h1, h2, h3⟩ := bitLenAux_spec 64 v h64
 have h18 : v < 18446744073709551616 := h64
 have hL : Lib.bitLen v = Lib.bitLenAux 64 v := rfl
 refine ⟨Lib.bitLenAux 64 v, ?_, h2, ?_⟩
 ·
  unfold span_below.f bits_Len64.f
  rw [if_pos (by omega), Option.bind_some, Int.toNat_natCast, hL]
  generalize Lib.bitLenAux 64 v = n at *
  have e : IntKind.u64.wrap (n : Int) = (n : Int) := by rw [IntKind.wrap_u64]; omega
  rw [e, if_pos (by omega)]
  have hs := shl_nat 1 n h1
  rw [show ((1 : Nat) : Int) = 1 from rfl] at hs
  rw [hs, Nat.one_mul, IntKind.wrap_u64]
  congr 1
  by_cases h : n = 64
  · subst h; decide
  ·
   have : 2 ^ n < 2 ^ 64 := pow_lt (by omega)
   have hp : 0 < 2 ^ n := Nat.two_pow_pos n
   have e2 : (2 : Nat) ^ 64 = 18446744073709551616 := by decide
   rw [Nat.mod_eq_of_lt (by omega)]
   generalize 2 ^ n = p at *
   omega
 ·
  generalize Lib.bitLenAux 64 v = n at *
  rcases Nat.lt_or_ge B n with h | h
  ·
   have := h3 (by omega)
   have h4 : 2 ^ B ≤ 2 ^ (n - 1) := pow_le (by omega)
   omega
  · exact h
def resN (k : Int) (w : Bool) (x y : Nat) : Nat := if w then val k 64 x y else val k 32 (x % 4294967296) (y % 4294967296)
theorem or_le_ones {x y a b n : Nat} (hx : x ≤ a) (hy : y ≤ b) (h : a ||| b < 2 ^ n) : x < 2 ^ n ∧ y < 2 ^ n := by
 have h1 : a ≤ a ||| b := Nat.left_le_or
 have h2 : b ≤ a ||| b := Nat.right_le_or
 omega
theorem shift_part {x : Nat} (B n : Nat) (h : x ≤ (2 ^ B - 1) / 2 ^ n) : x * 2 ^ n < 2 ^ B := by
 have h1 : x * 2 ^ n ≤ (2 ^ B - 1) / 2 ^ n * 2 ^ n := Nat.mul_le_mul_right _ h
 have h2 : (2 ^ B - 1) / 2 ^ n * 2 ^ n ≤ 2 ^ B - 1 := Nat.div_mul_le_self _ _
 have h3 : 0 < 2 ^ B := Nat.two_pow_pos B
 omega
theorem tdiv_nat' (r m : Nat) : Int.tdiv (r : Int) (m : Int) = ((r / m : Nat) : Int) := by rw [Int.tdiv_eq_ediv_of_nonneg (by omega), Int.natCast_ediv]
theorem val_lt (k : Int) (hk : k ∈ ops) (B : Nat) (hB : B = 64 ∨ B = 32) {x y : Nat} (hx : x < 2 ^ B) (hy : y < 2 ^ B) : val k B x y < 2 ^ B := by
 have hB0 : 0 < 2 ^ B := Nat.two_pow_pos B
 simp only [ops, List.mem_cons, List.not_mem_nil, or_false] at hk
 rcases hk with rfl | rfl | rfl | rfl | rfl | rfl | rfl | rfl | rfl | rfl | rfl | rfl | rfl
 all_goals simp only [val, Int.reduceEq, if_true, if_false]
 · exact Nat.mod_lt _ hB0
 · exact Nat.mod_lt _ hB0
 · exact Nat.mod_lt _ hB0
 · exact Nat.lt_of_le_of_lt (Nat.div_le_self _ _) hx
 · exact Nat.or_lt_two_pow hx hy
 · exact Nat.lt_of_le_of_lt Nat.and_le_left hx
 · exact Nat.mod_lt _ hB0
 · exact Nat.lt_of_le_of_lt (Nat.div_le_self _ _) hx
 · exact Nat.mod_lt _ hB0
 · exact Nat.lt_of_le_of_lt (Nat.mod_le _ _) hx
 · exact Nat.xor_lt_two_pow hx hy
 · exact hy
 ·
  have hn : y % B < B := Nat.mod_lt _ (by omega)
  by_cases h : x < 2 ^ (B - 1)
  · rw [if_pos h, Nat.add_zero]; exact Nat.lt_of_le_of_lt (Nat.div_le_self _ _) hx
  ·
   rw [if_neg h]
   have h1 : x / 2 ^ (y % B) < 2 ^ (B - y % B) := by
    rw [Nat.div_lt_iff_lt_mul (Nat.two_pow_pos _), ← Nat.pow_add, show B - y % B + y % B = B by omega]; exact hx
   have h2 : 2 ^ (B - y % B) ≤ 2 ^ B := pow_le (by omega)
   omega
theorem wrap_n {x : Int} {n : Nat} (h : x = (n : Int)) (hn : n < 18446744073709551616) : IntKind.u64.wrap x = (n : Int) := by rw [IntKind.wrap_u64]; omega
theorem do_spec (k : Nat) (hk : 1 ≤ k) (x0 : Int) (hx0 : x0 ∈ ops) (B : Nat) (hB : B = 64 ∨ B = 32) (a b c d : Nat) (hab : a ≤ b) (hb : b < 2 ^ B) (hcd : c ≤ d) (hd : d < 2 ^ B) :
  ∃ lo hi : Nat, span_do.f k x0 ((2 ^ B - 1 : Nat) : Int) (a : Int) (b : Int) (c : Int) (d : Int) = some ((lo : Int), (hi : Int)) ∧ lo ≤ hi ∧ hi < 2 ^ B ∧
   ∀ x y, a ≤ x → x ≤ b → c ≤ y → y ≤ d → lo ≤ val x0 B x y ∧ val x0 B x y ≤ hi := by
 obtain ⟨k, rfl⟩ : ∃ q, k = q + 1 := ⟨k - 1, by omega⟩
 have hBp : 2 ^ B ≤ 18446744073709551616 := by rcases hB with rfl | rfl <;> decide
 have hB0 : 0 < 2 ^ B := Nat.two_pow_pos B
 have hc64 : c < 18446744073709551616 := by omega
 have e0 : span_do.f (k + 1) x0 ((2 ^ B - 1 : Nat) : Int) (a : Int) (b : Int) (c : Int) (d : Int) = span_do.j0 (k + 1) x0 ((2 ^ B - 1 : Nat) : Int) ((c % B : Nat) : Int) (a : Int) (b : Int) (c : Int) (d : Int) 0 ((2 ^ B - 1 : Nat) : Int) := by
  unfold span_do.f
  rcases hB with rfl | rfl
  · rw [if_pos (by decide), and_63 hc64]
  · rw [if_neg (by decide), and_31 hc64]
 have hBl : B ≤ 64 := by rcases hB with rfl | rfl <;> decide
 have hBg : 32 ≤ B := by rcases hB with rfl | rfl <;> decide
 have hn : c % B < B := Nat.mod_lt _ (by omega)
 rw [e0]
 clear e0
 have none_ : ∀ k' : Int, k' ∈ ops → ∀ x y, a ≤ x → x ≤ b → c ≤ y → y ≤ d → val k' B x y ≤ 2 ^ B - 1 := by
  intro k' hk' x y h1 h2 h3 h4
  have hx : x < 2 ^ B := by omega
  have hy : y < 2 ^ B := by omega
  have := val_lt k' hk' B hB hx hy
  omega
 have hor : b ||| d < 2 ^ B := Nat.or_lt_two_pow hb hd
 have hbd : Go.bits .or .u64 (b : Int) (d : Int) = ((b ||| d : Nat) : Int) := or_nat (by omega) (by omega)
 have hsd : ∀ m : Nat, shr .u64 (m : Int) ((c % B : Nat) : Int) = ((m / 2 ^ (c % B) : Nat) : Int) := fun m => shr_nat m _ (by omega)
 simp only [ops, List.mem_cons, List.not_mem_nil, or_false] at hx0
 rcases hx0 with rfl | rfl | rfl | rfl | rfl | rfl | rfl | rfl | rfl | rfl | rfl | rfl | rfl
 all_goals simp only [span_do.j0, Int.reduceEq, if_true, if_false]
 ·
  by_cases h : b + d ≤ 2 ^ B - 1
  ·
   rw [wrap_n (n := 2 ^ B - 1 - d) (by omega) (by omega), if_pos (by omega), wrap_n (n := a + c) (by omega) (by omega), wrap_n (n := b + d) (by omega) (by omega)]
   refine ⟨a + c, b + d, rfl, by omega, by omega, fun x y h1 h2 h3 h4 => ?_⟩
   simp only [val, if_true]
   rw [Nat.mod_eq_of_lt (by omega)]; omega
  ·
   rw [wrap_n (n := 2 ^ B - 1 - d) (by omega) (by omega), if_neg (by omega)]
   exact ⟨0, 2 ^ B - 1, rfl, by omega, by omega, fun x y h1 h2 h3 h4 => ⟨Nat.zero_le _, none_ 0 (by decide) x y h1 h2 h3 h4⟩⟩
 ·
  by_cases h : d ≤ a
  ·
   rw [if_pos (by omega), wrap_n (n := a - d) (by omega) (by omega), wrap_n (n := b - c) (by omega) (by omega)]
   refine ⟨a - d, b - c, rfl, by omega, by omega, fun x y h1 h2 h3 h4 => ?_⟩
   simp only [val, Int.reduceEq, if_true, if_false]
   rw [show x + (2 ^ B - y) = x - y + 2 ^ B by omega, Nat.add_mod_right, Nat.mod_eq_of_lt (by omega)]; omega
  ·
   rw [if_neg (by omega)]
   exact ⟨0, 2 ^ B - 1, rfl, by omega, by omega, fun x y h1 h2 h3 h4 => ⟨Nat.zero_le _, none_ 16 (by decide) x y h1 h2 h3 h4⟩⟩
 ·
  unfold bits_Mul64.f
  rw [if_pos (by omega), Option.bind_some, Int.toNat_natCast, Int.toNat_natCast]
  by_cases h : b * d < 2 ^ B
  ·
   have h0 : b * d < 18446744073709551616 := by omega
   rw [if_pos (by show ((b * d / 18446744073709551616 : Nat) : Int) = 0; rw [Nat.div_eq_of_lt h0]; rfl), if_pos (by show ((b * d % 18446744073709551616 : Nat) : Int) ≤ _; rw [Nat.mod_eq_of_lt h0]; omega)]
   have hac : a * c ≤ b * d := Nat.mul_le_mul hab hcd
   rw [Nat.mod_eq_of_lt h0, wrap_n (x := (a : Int) * (c : Int)) (n := a * c) (by rw [Int.natCast_mul]) (by omega)]
   refine ⟨a * c, b * d, rfl, hac, h, fun x y h1 h2 h3 h4 => ?_⟩
   simp only [val, Int.reduceEq, if_true, if_false]
   have p1 : a * c ≤ x * y := Nat.mul_le_mul h1 h3
   have p2 : x * y ≤ b * d := Nat.mul_le_mul h2 h4
   rw [Nat.mod_eq_of_lt (by omega)]; exact ⟨p1, p2⟩
  ·
   refine ⟨0, 2 ^ B - 1, ?_, by omega, by omega, fun x y h1 h2 h3 h4 => ⟨Nat.zero_le _, none_ 32 (by decide) x y h1 h2 h3 h4⟩⟩
   by_cases h0 : b * d < 18446744073709551616
   · rw [if_pos (by show ((b * d / 18446744073709551616 : Nat) : Int) = 0; rw [Nat.div_eq_of_lt h0]; rfl), if_neg (by show ¬ ((b * d % 18446744073709551616 : Nat) : Int) ≤ _; rw [Nat.mod_eq_of_lt h0]; omega)]; rfl
   · rw [if_neg (by show ¬ ((b * d / 18446744073709551616 : Nat) : Int) = 0; omega)]; rfl
 ·
  by_cases h : c > 0
  ·
   rw [if_pos (by omega), if_neg (by omega), if_neg (by omega), tdiv_nat', tdiv_nat', wrap_n (n := a / d) rfl (Nat.lt_of_le_of_lt (Nat.div_le_self _ _) (by omega)), wrap_n (n := b / c) rfl (Nat.lt_of_le_of_lt (Nat.div_le_self _ _) (by omega))]
   have dv : ∀ p q r s : Nat, p ≤ q → s ≤ r → 0 < s → p / r ≤ q / s := fun p q r s h1 h2 h3 => Nat.le_trans (Nat.div_le_div_right h1) (Nat.div_le_div_left h2 h3)
   refine ⟨a / d, b / c, rfl, dv _ _ _ _ hab hcd h, Nat.lt_of_le_of_lt (Nat.div_le_self _ _) hb, fun x y h1 h2 h3 h4 => ?_⟩
   simp only [val, Int.reduceEq, if_true, if_false]
   exact ⟨dv _ _ _ _ h1 h4 (by omega), dv _ _ _ _ h2 h3 h⟩
  ·
   rw [if_neg (by omega)]
   refine ⟨0, b, rfl, by omega, hb, fun x y h1 h2 h3 h4 => ?_⟩
   simp only [val, Int.reduceEq, if_true, if_false]
   exact ⟨Nat.zero_le _, Nat.le_trans (Nat.div_le_self _ _) h2⟩
 ·
  obtain ⟨n, e, h1, h2⟩ := f_below (b ||| d) B hBl hor
  rw [hbd, e]
  simp only [Option.bind_some]
  have hp : 2 ^ n ≤ 2 ^ B := pow_le h2
  have e2 : mx (a : Int) (c : Int) = ((max a c : Nat) : Int) := by unfold mx; omega
  have q := or_le_ones hab hcd h1
  rw [e2]
  refine ⟨max a c, 2 ^ n - 1, rfl, by omega, by omega, fun x y g1 g2 g3 g4 => ?_⟩
  simp only [val, Int.reduceEq, if_true, if_false]
  have q2 := or_le_ones g2 g4 h1
  have r1 : x ||| y < 2 ^ n := Nat.or_lt_two_pow q2.1 q2.2
  have r2 : x ≤ x ||| y := Nat.left_le_or
  have r3 : y ≤ x ||| y := Nat.right_le_or
  omega
 ·
  have e2 : mn (b : Int) (d : Int) = ((min b d : Nat) : Int) := by unfold mn; omega
  rw [e2]
  refine ⟨0, min b d, rfl, Nat.zero_le _, by omega, fun x y g1 g2 g3 g4 => ?_⟩
  simp only [val, Int.reduceEq, if_true, if_false]
  have r2 : x &&& y ≤ x := Nat.and_le_left
  have r3 : x &&& y ≤ y := Nat.and_le_right
  omega
 ·
  rw [f_one]
  simp only [Option.bind_some, decide_eq_true_eq]
  rw [if_pos (show (0 : Int) ≤ ((c % B : Nat) : Int) by omega), hsd]
  by_cases h : c = d ∧ b ≤ (2 ^ B - 1) / 2 ^ (c % B)
  ·
   obtain ⟨h, h'⟩ := h
   subst h
   have hbn := shift_part B (c % B) h'
   have han : a * 2 ^ (c % B) ≤ b * 2 ^ (c % B) := Nat.mul_le_mul_right _ hab
   rw [if_pos rfl, if_pos (by omega), shl_nat a _ (by omega), shl_nat b _ (by omega), Nat.mod_eq_of_lt (show a * 2 ^ (c % B) < 18446744073709551616 by omega), Nat.mod_eq_of_lt (show b * 2 ^ (c % B) < 18446744073709551616 by omega)]
   refine ⟨_, _, rfl, han, hbn, fun x y g1 g2 g3 g4 => ?_⟩
   obtain rfl : y = c := by omega
   simp only [val, Int.reduceEq, if_true, if_false]
   have p1 : a * 2 ^ (y % B) ≤ x * 2 ^ (y % B) := Nat.mul_le_mul_right _ g1
   have p2 : x * 2 ^ (y % B) ≤ b * 2 ^ (y % B) := Nat.mul_le_mul_right _ g2
   rw [Nat.mod_eq_of_lt (show x * 2 ^ (y % B) < 2 ^ B by omega)]; exact ⟨p1, p2⟩
  ·
   refine ⟨0, 2 ^ B - 1, ?_, by omega, by omega, fun x y h1 h2 h3 h4 => ⟨Nat.zero_le _, none_ 96 (by decide) x y h1 h2 h3 h4⟩⟩
   by_cases h1 : c = d
   · rw [if_pos h1, if_neg (fun h2 => h ⟨h1, by omega⟩)]; rfl
   · rw [if_neg h1]; rfl
 ·
  rw [f_one]
  simp only [Option.bind_some, decide_eq_true_eq]
  rw [if_pos (show (0 : Int) ≤ ((c % B : Nat) : Int) by omega), hsd, hsd]
  by_cases h : c = d
  ·
   subst h
   rw [if_pos rfl]
   refine ⟨_, _, rfl, Nat.div_le_div_right hab, Nat.lt_of_le_of_lt (Nat.div_le_self _ _) hb, fun x y g1 g2 g3 g4 => ?_⟩
   obtain rfl : y = c := by omega
   simp only [val, Int.reduceEq, if_true, if_false]
   exact ⟨Nat.div_le_div_right g1, Nat.div_le_div_right g2⟩
  ·
   rw [if_neg h]
   refine ⟨0, b, rfl, Nat.zero_le _, hb, fun x y g1 g2 g3 g4 => ?_⟩
   simp only [val, Int.reduceEq, if_true, if_false]
   exact ⟨Nat.zero_le _, Nat.le_trans (Nat.div_le_self _ _) g2⟩
 ·
  exact ⟨0, 2 ^ B - 1, rfl, by omega, by omega, fun x y h1 h2 h3 h4 => ⟨Nat.zero_le _, none_ 128 (by decide) x y h1 h2 h3 h4⟩⟩
 ·
  by_cases h : b < c
  ·
   rw [if_pos (by omega)]
   refine ⟨a, b, rfl, hab, hb, fun x y g1 g2 g3 g4 => ?_⟩
   simp only [val, Int.reduceEq, if_true, if_false]
   rw [Nat.mod_eq_of_lt (by omega)]; exact ⟨g1, g2⟩
  ·
   rw [if_neg (by omega)]
   by_cases h2 : c > 0
   ·
    rw [if_pos (by omega), wrap_n (n := d - 1) (by omega) (by omega), show mn (b : Int) ((d - 1 : Nat) : Int) = ((min b (d - 1) : Nat) : Int) by unfold mn; omega]
    refine ⟨0, min b (d - 1), rfl, Nat.zero_le _, by omega, fun x y g1 g2 g3 g4 => ?_⟩
    simp only [val, Int.reduceEq, if_true, if_false]
    have r1 := Nat.mod_lt x (show y > 0 by omega)
    have r2 := Nat.mod_le x y
    omega
   ·
    rw [if_neg (by omega)]
    refine ⟨0, b, rfl, Nat.zero_le _, hb, fun x y g1 g2 g3 g4 => ?_⟩
    simp only [val, Int.reduceEq, if_true, if_false]
    exact ⟨Nat.zero_le _, Nat.le_trans (Nat.mod_le _ _) g2⟩
 ·
  obtain ⟨n, e, h1, h2⟩ := f_below (b ||| d) B hBl hor
  rw [hbd, e]
  simp only [Option.bind_some]
  have hp : 2 ^ n ≤ 2 ^ B := pow_le h2
  have hp0 : 0 < 2 ^ n := Nat.two_pow_pos n
  refine ⟨0, 2 ^ n - 1, rfl, Nat.zero_le _, by omega, fun x y g1 g2 g3 g4 => ?_⟩
  simp only [val, Int.reduceEq, if_true, if_false]
  have q2 := or_le_ones g2 g4 h1
  have r1 : x ^^^ y < 2 ^ n := Nat.xor_lt_two_pow q2.1 q2.2
  omega
 ·
  refine ⟨c, d, rfl, hcd, hd, fun x y g1 g2 g3 g4 => ?_⟩
  simp only [val, Int.reduceEq, if_true, if_false]
  exact ⟨g3, g4⟩
 ·
  have hh : (((2 ^ B - 1 : Nat) : Int) / 2) = ((2 ^ (B - 1) - 1 : Nat) : Int) := by rcases hB with rfl | rfl <;> decide
  have hh2 : 2 ^ (B - 1) ≤ 2 ^ B := pow_le (by omega)
  have hh3 : 0 < 2 ^ (B - 1) := Nat.two_pow_pos _
  rw [hh]
  by_cases h : b > 2 ^ (B - 1) - 1
  ·
   rw [if_pos (by omega)]
   exact ⟨0, 2 ^ B - 1, rfl, by omega, by omega, fun x y h1 h2 h3 h4 => ⟨Nat.zero_le _, none_ 192 (by decide) x y h1 h2 h3 h4⟩⟩
  ·
   rw [if_neg (by omega), f_one]
   simp only [Option.bind_some, decide_eq_true_eq]
   rw [if_pos (show (0 : Int) ≤ ((c % B : Nat) : Int) by omega), hsd, hsd]
   by_cases h2 : c = d
   ·
    subst h2
    rw [if_pos rfl]
    refine ⟨_, _, rfl, Nat.div_le_div_right hab, Nat.lt_of_le_of_lt (Nat.div_le_self _ _) hb, fun x y g1 g2 g3 g4 => ?_⟩
    obtain rfl : y = c := by omega
    simp only [val, Int.reduceEq, if_true, if_false]
    rw [if_pos (by omega), Nat.add_zero]
    exact ⟨Nat.div_le_div_right g1, Nat.div_le_div_right g2⟩
   ·
    rw [if_neg h2]
    refine ⟨0, b, rfl, Nat.zero_le _, hb, fun x y g1 g2 g3 g4 => ?_⟩
    simp only [val, Int.reduceEq, if_true, if_false]
    rw [if_pos (by omega), Nat.add_zero]
    exact ⟨Nat.zero_le _, Nat.le_trans (Nat.div_le_self _ _) g2⟩
theorem Do_spec (k : Nat) (hk : 5 ≤ k) (x0 : Int) (hx0 : x0 ∈ ops) (w : Bool) (a b c d : Nat) (ha : a < 18446744073709551616) (hb : b < 18446744073709551616) (hc : c < 18446744073709551616) (hd : d < 18446744073709551616) :
  ∃ lo hi : Nat, span_Do.f k x0 w (a : Int) (b : Int) (c : Int) (d : Int) = some ((lo : Int), (hi : Int), 0) ∧ lo ≤ hi ∧ hi < 2 ^ (if w then 64 else 32) ∧
   (∀ x y, tlo a b ≤ x → x ≤ thi a b → tlo c d ≤ y → y ≤ thi c d → lo ≤ resN x0 w x y ∧ resN x0 w x y ≤ hi) ∧ (a = b → c = d → lo = resN x0 w a c ∧ hi = resN x0 w a c) := by
 obtain ⟨k, rfl⟩ : ∃ q, k = q + 4 := ⟨k - 4, by omega⟩
 have tab := t_le (a := a) hb
 have tcd := t_le (a := c) hd
 have inner : ∀ (B : Nat), (B = if w then 64 else 32) → ∀ p q r s : Nat, p ≤ q → q < 2 ^ B → r ≤ s → s < 2 ^ B →
   ∃ lo hi : Nat, span_Do.j0 (k + 4) x0 w ((2 ^ B - 1 : Nat) : Int) (p : Int) (q : Int) (r : Int) (s : Int) = some ((lo : Int), (hi : Int), 0) ∧ lo ≤ hi ∧ hi < 2 ^ B ∧
    (∀ x y, p ≤ x → x ≤ q → r ≤ y → y ≤ s → lo ≤ val x0 B x y ∧ val x0 B x y ≤ hi) ∧ (p = q → r = s → lo = val x0 B p r ∧ hi = val x0 B p r) := by
  intro B hB p q r s hpq hq hrs hs
  have hB' : B = 64 ∨ B = 32 := by cases w <;> simp_all
  have hBp : 2 ^ B ≤ 18446744073709551616 := by rcases hB' with rfl | rfl <;> decide
  have halu : ∀ u v : Nat, u < 2 ^ B → v < 2 ^ B → alu_Do.f x0 w (u : Int) (v : Int) = some ((val x0 B u v : Int), 0) := by
   intro u v hu hv
   cases w with
   | true => rw [if_pos rfl] at hB; subst hB; exact alu_Do64 x0 hx0 hu hv
   | false =>
    rw [if_neg (by decide)] at hB; subst hB
    rw [alu_Do32 x0 hx0, Nat.mod_eq_of_lt (show u < 4294967296 from hu), Nat.mod_eq_of_lt (show v < 4294967296 from hv)]
  have jt : ∀ r' s' : Nat, r' < 2 ^ B → span_Do.j2 (k + 2) x0 w ((2 ^ B - 1 : Nat) : Int) true (p : Int) (q : Int) (r' : Int) (s' : Int) = some ((val x0 B p r' : Int), (val x0 B p r' : Int), 0) := by
   intro r' s' hr'
   rw [span_Do.j2, if_pos rfl, halu p r' (by omega) hr']
   simp only [Option.bind_some, span_Const.f]
  have jf : ∀ r' s' : Nat, r' ≤ s' → s' < 2 ^ B → ∃ lo hi : Nat, span_Do.j2 (k + 2) x0 w ((2 ^ B - 1 : Nat) : Int) false (p : Int) (q : Int) (r' : Int) (s' : Int) = some ((lo : Int), (hi : Int), 0) ∧ lo ≤ hi ∧ hi < 2 ^ B ∧
    ∀ x y, p ≤ x → x ≤ q → r' ≤ y → y ≤ s' → lo ≤ val x0 B x y ∧ val x0 B x y ≤ hi := by
   intro r' s' hr' hs'
   obtain ⟨lo, hi, e, h1, h2, h3⟩ := do_spec (k + 1) (by omega) x0 hx0 B hB' p q r' s' hpq hq hr' hs'
   refine ⟨lo, hi, ?_, h1, h2, h3⟩
   rw [span_Do.j2, if_neg (by decide), e]
   simp only [Option.bind_some]
   rw [if_neg (by omega), if_neg (by omega)]
  by_cases hneg : x0 = 128
  ·
   have ej : span_Do.j0 (k + 4) x0 w ((2 ^ B - 1 : Nat) : Int) (p : Int) (q : Int) (r : Int) (s : Int) = span_Do.j2 (k + 2) x0 w ((2 ^ B - 1 : Nat) : Int) (decide (p = q)) (p : Int) (q : Int) (p : Int) (q : Int) := by
    rw [span_Do.j0, if_pos hneg, span_Do.j1, f_one]
    simp only [Option.bind_some, decide_eq_true_eq]
    by_cases h : p = q
    · rw [if_pos h, if_pos h, decide_eq_true h]
    · rw [if_neg h, decide_eq_false h]
   rw [ej]
   have vv : ∀ x y y' : Nat, val x0 B x y = val x0 B x y' := fun x y y' => by subst hneg; simp only [val, Int.reduceEq, if_true, if_false]
   by_cases h : p = q
   ·
    rw [decide_eq_true h, jt p q (by omega)]
    refine ⟨_, _, rfl, Nat.le_refl _, val_lt x0 hx0 B hB' (by omega) (by omega), fun x y h1 h2 h3 h4 => ?_, fun _ _ => ?_⟩
    ·
     obtain rfl : x = p := by omega
     rw [vv x y x]; exact ⟨Nat.le_refl _, Nat.le_refl _⟩
    · rw [vv p r p]; exact ⟨rfl, rfl⟩
   ·
    rw [decide_eq_false h]
    obtain ⟨lo, hi, e, h1, h2, h3⟩ := jf p q hpq hq
    refine ⟨lo, hi, e, h1, h2, fun x y g1 g2 _ _ => ?_, fun hh => absurd hh h⟩
    rw [vv x y p]; exact h3 x p g1 g2 (Nat.le_refl _) hpq
  ·
   by_cases hone : r = s ∧ (p = q ∨ x0 = 176)
   ·
    have ej : span_Do.j0 (k + 4) x0 w ((2 ^ B - 1 : Nat) : Int) (p : Int) (q : Int) (r : Int) (s : Int) = span_Do.j2 (k + 2) x0 w ((2 ^ B - 1 : Nat) : Int) true (p : Int) (q : Int) (r : Int) (s : Int) := by
     rw [span_Do.j0, if_neg hneg, span_Do.j1, f_one, f_one]
     simp only [Option.bind_some, decide_eq_true_eq]
     rw [if_pos hone.1]
     rcases hone.2 with h | h
     · rw [if_pos h]
     ·
      by_cases h2 : p = q
      · rw [if_pos h2]
      · rw [if_neg h2, if_pos h]
    rw [ej, jt r s (by omega)]
    have vv : ∀ x, p ≤ x → x ≤ q → val x0 B x r = val x0 B p r := by
     intro x h1 h2
     rcases hone.2 with h | h
     · rw [show x = p by omega]
     · subst h; simp only [val, Int.reduceEq, if_true, if_false]
    refine ⟨_, _, rfl, Nat.le_refl _, val_lt x0 hx0 B hB' (by omega) (by omega), fun x y h1 h2 h3 h4 => ?_, fun _ _ => ⟨rfl, rfl⟩⟩
    obtain rfl : y = r := by omega
    rw [vv x h1 h2]; exact ⟨Nat.le_refl _, Nat.le_refl _⟩
   ·
    have ej : span_Do.j0 (k + 4) x0 w ((2 ^ B - 1 : Nat) : Int) (p : Int) (q : Int) (r : Int) (s : Int) = span_Do.j2 (k + 2) x0 w ((2 ^ B - 1 : Nat) : Int) false (p : Int) (q : Int) (r : Int) (s : Int) := by
     rw [span_Do.j0, if_neg hneg, span_Do.j1, f_one, f_one]
     simp only [Option.bind_some, decide_eq_true_eq]
     by_cases h1 : r = s
     ·
      have h2 : ¬ (p = q) := fun h => hone ⟨h1, .inl h⟩
      have h3 : ¬ (x0 = 176) := fun h => hone ⟨h1, .inr h⟩
      rw [if_pos h1, if_neg h2, if_neg h3, beq_eq_false_iff_ne.mpr hneg]
     · rw [if_neg h1]
    rw [ej]
    obtain ⟨lo, hi, e, h1, h2, h3⟩ := jf r s hrs hs
    exact ⟨lo, hi, e, h1, h2, h3, fun h h' => absurd ⟨h', .inl h⟩ hone⟩
 have h0 : alu_Do.f x0 w 0 0 = some ((val x0 (if w then 64 else 32) 0 0 : Int), 0) := by
  cases w with
  | true => exact alu_Do64 x0 hx0 (a := 0) (b := 0) (by decide) (by decide)
  | false => exact alu_Do32 x0 hx0 0 0
 unfold span_Do.f
 rw [h0]
 simp only [Option.bind_some, if_true]
 rw [f_tidy, f_tidy]
 simp only [Option.bind_some]
 cases w with
 | true =>
  simp only [if_true]
  obtain ⟨lo, hi, e, h1, h2, h3, h4⟩ := inner 64 rfl (tlo a b) (thi a b) (tlo c d) (thi c d) tab.1 tab.2 tcd.1 tcd.2
  refine ⟨lo, hi, e, h1, h2, h3, fun e1 e2 => ?_⟩
  subst e1; subst e2
  obtain ⟨t1, t2⟩ := t_eq (Nat.le_refl a)
  obtain ⟨t3, t4⟩ := t_eq (Nat.le_refl c)
  rw [t1, t2, t3, t4] at h4
  exact h4 rfl rfl
 | false =>
  obtain ⟨p, q, e1, p1, p2, p3, p4⟩ := f_cut (tlo a b) (thi a b) tab.2 tab.1
  obtain ⟨r, s, e2, r1, r2, r3, r4⟩ := f_cut (tlo c d) (thi c d) tcd.2 tcd.1
  rw [e1, e2]
  simp only [Option.bind_some, Bool.false_eq_true, if_false]
  obtain ⟨lo, hi, e, h1, h2, h3, h4⟩ := inner 32 rfl p q r s p1 p2 r1 r2
  refine ⟨lo, hi, e, h1, h2, fun x y g1 g2 g3 g4 => h3 _ _ (p3 x g1 g2).1 (p3 x g1 g2).2 (r3 y g3 g4).1 (r3 y g3 g4).2, fun e1 e2 => ?_⟩
  subst e1; subst e2
  obtain ⟨t1, t2⟩ := t_eq (Nat.le_refl a)
  obtain ⟨t3, t4⟩ := t_eq (Nat.le_refl c)
  rw [t1, t2] at p4
  rw [t3, t4] at r4
  obtain ⟨q1, q2⟩ := p4 rfl
  obtain ⟨s1, s2⟩ := r4 rfl
  obtain ⟨z1, z2⟩ := h4 q1 s1
  simp only [resN, Bool.false_eq_true, if_false]
  rw [q2, s2] at z1 z2
  exact ⟨z1, z2⟩
theorem Do_not (k : Nat) (x0 : Int) (hx0 : x0 ∉ ops) (w : Bool) (a b c d : Int) : span_Do.f k x0 w a b c d = some (0, 0, 2) := by
 unfold span_Do.f
 rw [alu_Do_not x0 hx0]
 simp only [Option.bind_some]
 rw [if_neg (by decide)]
end Go.Proofs.Ytladlljnpmpdpaa.SpDoSpanSound
