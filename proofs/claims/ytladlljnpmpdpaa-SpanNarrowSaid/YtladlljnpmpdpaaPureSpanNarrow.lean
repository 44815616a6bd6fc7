/- Plain: narrowing two spans by a condition loses no pair for which it is as it was said to be. -/
import Derived.Test.YtladlljnpmpdpaaPSpanNarrowx
import Derived.Test.YtladlljnpmpdpaaSpNhSpanNarrow
namespace Go.Proofs.Ytladlljnpmpdpaa.Pure
open Go.RowKit Go.Proofs.Ytladlljnpmpdpaa.PSpanNarrow Go.Proofs.YtladlljnpmpdpaaW.PrintWords Go.Proofs.YtladlljnpmpdpaaW.PrintLast Go.Proofs.YtladlljnpmpdpaaW.PrintMore
open Go.Proofs.Ytladlljnpmpdpaa.Num Go.Proofs.Ytladlljnpmpdpaa.SpNarSpanNarrow Go.Proofs.Ytladlljnpmpdpaa.SpNhSpanNarrow

set_option linter.unusedVariables false
namespace SpanNarrowParts
theorem wrap_n {x : Int} {n : Nat} (h : x = (n : Int)) (hn : n < 18446744073709551616) : IntKind.u64.wrap x = (n : Int) := by rw [IntKind.wrap_u64]; omega
theorem f_Member (a b c : Nat) (hb : b < 18446744073709551616) (hc : c < 18446744073709551616) : ∃ m : Nat, posternref15_Member.f (a : Int) (b : Int) (c : Int) = some (m : Int) ∧ tlo a b ≤ m ∧ m ≤ thi a b := by
  obtain ⟨h1, h2⟩ := t_le (a := a) hb
  unfold posternref15_Member.f
  rw [f_Hi, f_Lo]
  simp only [Option.bind_some]
  generalize tlo a b = p at *; generalize thi a b = q at *
  rw [wrap_n (x := (q : Int) - (p : Int)) (n := q - p) (by omega) (by omega)]
  by_cases h : q - p = 18446744073709551615
  · rw [if_pos (by omega)]
    exact ⟨c, rfl, by omega, by omega⟩
  · rw [if_neg (by omega), wrap_n (x := ((q - p : Nat) : Int) + 1) (n := q - p + 1) (by omega) (by omega), if_neg (by omega), show Int.tmod (c : Int) ((q - p + 1 : Nat) : Int) = ((c % (q - p + 1) : Nat) : Int) by rw [Int.tmod_eq_emod_of_nonneg (by omega), Int.natCast_emod]]
    have hm := Nat.mod_lt c (show q - p + 1 > 0 by omega)
    generalize c % (q - p + 1) = z at *
    rw [wrap_n (n := p + z) (by omega) (by omega)]
    exact ⟨p + z, rfl, by omega, by omega⟩

section
variable (x0 : Int) (a b c d x y : Nat) (ha : a < 18446744073709551616) (hb : b < 18446744073709551616) (hc : c < 18446744073709551616) (hd : d < 18446744073709551616)
  (hx1 : tlo a b ≤ x) (hx2 : x ≤ thi a b) (hy1 : tlo c d ≤ y) (hy2 : y ≤ thi c d)
include hb hd hx1 hx2 hy1 hy2

theorem turn_in (hx0 : x0 ∈ conds) (w : Bool) (j : Int) (n : Nat) (hn : 90 ≤ n) (i : Int) (h : Bool) (hi : (h = true ∧ i = 0) ∨ (h = false ∧ i = 1))
    (next : ∀ k, n ≤ k → posternlaw15_SpanNarrow.l1 k x0 (x : Int) (y : Int) w (hold x0 w x y) true [true, false] 2 j [true, false] 2 (i + 1) (a : Int) (b : Int) (c : Int) (d : Int) = some true) :
    ∀ k, n + 3 ≤ k → posternlaw15_SpanNarrow.l1 k x0 (x : Int) (y : Int) w (hold x0 w x y) true [true, false] 2 j [true, false] 2 i (a : Int) (b : Int) (c : Int) (d : Int) = some true := by
  intro k hk
  obtain ⟨k, rfl⟩ : ∃ q, k = q + 3 := ⟨k - 3, by omega⟩
  have hr : rdOf false ([true, false] : List Bool) i = h := by rcases hi with ⟨rfl, rfl⟩ | ⟨rfl, rfl⟩ <;> rfl
  have h1 : i < 2 := by omega
  have h0 : 0 ≤ i := by omega
  have hw : wrap64 (i + 1) = i + 1 := by unfold wrap64; omega
  have hxl : x < 18446744073709551616 := by have := (t_le (a := a) hb).2; omega
  have hyl : y < 18446744073709551616 := by have := (t_le (a := c) hd).2; omega
  obtain ⟨a1, a2, b1, b2, ok, e, g1, g2, _, _⟩ := Narrow_in (k + 2) (by omega) x0 hx0 w h a b c d hb hd
  obtain ⟨c1, c2, c3, c4, f⟩ := Narrow_const (k + 2) (by omega) x0 hx0 w h x y hxl hyl
  rw [posternlaw15_SpanNarrow.l1, if_pos h1, if_pos h0, if_pos (show i < ((List.length [true, false] : Nat) : Int) from h1), hr, hw, e]
  simp only [span_Const.f, Option.bind_some]
  rw [f]
  simp only [Option.bind_some, if_true]
  rw [if_neg (show ¬ ((hold x0 w x y == h) != (hold x0 w x y == h)) = true by simp)]
  have hg : hold x0 w x y = h → ok = true ∧ a1 ≤ (x : Int) ∧ (x : Int) ≤ a2 ∧ b1 ≤ (y : Int) ∧ (y : Int) ≤ b2 := fun hh => g1.1 (x : Int) (y : Int) (by omega) (by omega) (by omega) (by omega) hh
  cases ok with
  | true =>
    obtain ⟨z1, z2, z3, z4, z5, z6⟩ := g1.2 rfl
    have j3 : posternlaw15_SpanNarrow.j3 (k + 1) x0 (x : Int) (y : Int) w (hold x0 w x y) true true [true, false] 2 j [true, false] 2 i false (a : Int) (b : Int) (c : Int) (d : Int) a1 a2 b1 b2 = some true := by
      rw [posternlaw15_SpanNarrow.j3, if_neg (by decide), if_pos rfl, if_neg (by omega), if_neg (by omega), f_Lo]
      simp only [Option.bind_some]
      rw [if_neg (by omega), f_Hi]
      simp only [Option.bind_some]
      rw [if_neg (by omega), f_Lo]
      simp only [Option.bind_some]
      rw [if_neg (by omega), f_Hi]
      simp only [Option.bind_some]
      rw [if_neg (by omega), hw]
      exact next _ (by omega)
    simp only [if_true]
    rw [posternlaw15_SpanNarrow.j2, if_neg (by decide)]
    by_cases hh : hold x0 w x y = h
    · obtain ⟨_, q1, q2, q3, q4⟩ := hg hh
      rw [if_pos (by rw [hh]; simp), if_pos rfl, if_neg (by omega), if_neg (by omega), if_neg (by omega), decide_eq_false (by omega)]
      exact j3
    · rw [if_neg (by simpa using hh)]
      exact j3
  | false =>
    have hh : ¬ hold x0 w x y = h := fun hh => absurd (hg hh).1 (by decide)
    simp only [Bool.false_eq_true, if_false, if_true, beq_self_eq_true, Bool.not_true, Bool.or_false]
    rw [posternlaw15_SpanNarrow.j2, if_neg (by decide), if_neg (by simpa using hh), posternlaw15_SpanNarrow.j3, if_neg (by decide), if_neg (by decide), hw]
    exact next _ (by omega)

omit hb hd hx1 hx2 hy1 hy2 in
theorem turn_not (hx0 : x0 ∉ conds) (w : Bool) (j : Int) (n : Nat) (hn : 90 ≤ n) (i : Int) (hi : i = 0 ∨ i = 1)
    (next : ∀ k, n ≤ k → posternlaw15_SpanNarrow.l1 k x0 (x : Int) (y : Int) w false false [true, false] 2 j [true, false] 2 (i + 1) (a : Int) (b : Int) (c : Int) (d : Int) = some true) :
    ∀ k, n + 3 ≤ k → posternlaw15_SpanNarrow.l1 k x0 (x : Int) (y : Int) w false false [true, false] 2 j [true, false] 2 i (a : Int) (b : Int) (c : Int) (d : Int) = some true := by
  intro k hk
  obtain ⟨k, rfl⟩ : ∃ q, k = q + 3 := ⟨k - 3, by omega⟩
  have h1 : i < 2 := by omega
  have h0 : 0 ≤ i := by omega
  have hw : wrap64 (i + 1) = i + 1 := by unfold wrap64; omega
  rw [posternlaw15_SpanNarrow.l1, if_pos h1, if_pos h0, if_pos (show i < ((List.length [true, false] : Nat) : Int) from h1), hw, Narrow_not (k + 2) (by omega) x0 hx0]
  simp only [span_Const.f, Option.bind_some]
  rw [Narrow_not (k + 2) (by omega) x0 hx0]
  simp only [Option.bind_some, Bool.false_eq_true, if_false, if_true, beq_self_eq_true, Bool.not_true, Bool.or_false]
  exact next _ (by omega)

theorem turn_wide (n : Nat) (hn : 90 ≤ n) (j : Int) (w : Bool) (hj : (w = true ∧ j = 0) ∨ (w = false ∧ j = 1))
    (next : ∀ k, n ≤ k → posternlaw15_SpanNarrow.l0 k x0 (x : Int) (y : Int) [true, false] 2 (j + 1) (a : Int) (b : Int) (c : Int) (d : Int) = some true) :
    ∀ k, n + 10 ≤ k → posternlaw15_SpanNarrow.l0 k x0 (x : Int) (y : Int) [true, false] 2 j (a : Int) (b : Int) (c : Int) (d : Int) = some true := by
  intro k hk
  obtain ⟨k, rfl⟩ : ∃ q, k = q + 1 := ⟨k - 1, by omega⟩
  have hr : rdOf false ([true, false] : List Bool) j = w := by rcases hj with ⟨rfl, rfl⟩ | ⟨rfl, rfl⟩ <;> rfl
  have h1 : j < 2 := by omega
  have h0 : 0 ≤ j := by omega
  have hw : wrap64 (j + 1) = j + 1 := by unfold wrap64; omega
  have hs : posternlaw15_size.f w = some (if w then 64 else 32) := by cases w <;> rfl
  have hxl : x < 18446744073709551616 := by have := (t_le (a := a) hb).2; omega
  have hyl : y < 18446744073709551616 := by have := (t_le (a := c) hd).2; omega
  rw [posternlaw15_SpanNarrow.l0, if_pos h1, if_pos h0, if_pos (show j < ((List.length [true, false] : Nat) : Int) from h1), hr, hs]
  simp only [Option.bind_some]
  rw [ref_hold k (by omega) x0 w x y hxl hyl]
  simp only [Option.bind_some]
  show posternlaw15_SpanNarrow.l1 k x0 (x : Int) (y : Int) w _ _ [true, false] 2 j [true, false] 2 0 (a : Int) (b : Int) (c : Int) (d : Int) = some true
  by_cases hx0 : x0 ∈ conds
  · rw [if_pos hx0, decide_eq_true hx0]
    have last : ∀ k, n + 1 ≤ k → posternlaw15_SpanNarrow.l1 k x0 (x : Int) (y : Int) w (hold x0 w x y) true [true, false] 2 j [true, false] 2 (0 + 1 + 1) (a : Int) (b : Int) (c : Int) (d : Int) = some true := by
      intro k hk
      obtain ⟨k, rfl⟩ : ∃ q, k = q + 1 := ⟨k - 1, by omega⟩
      rw [posternlaw15_SpanNarrow.l1, if_neg (by decide), hw]
      exact next _ (by omega)
    have t1 := turn_in x0 a b c d x y hb hd hx1 hx2 hy1 hy2 hx0 w j (n + 1) (by omega) (0 + 1) false (.inr ⟨rfl, rfl⟩) last
    exact turn_in x0 a b c d x y hb hd hx1 hx2 hy1 hy2 hx0 w j (n + 1 + 3) (by omega) 0 true (.inl ⟨rfl, rfl⟩) t1 k (by omega)
  · rw [if_neg hx0, decide_eq_false hx0]
    have last : ∀ k, n + 1 ≤ k → posternlaw15_SpanNarrow.l1 k x0 (x : Int) (y : Int) w false false [true, false] 2 j [true, false] 2 (0 + 1 + 1) (a : Int) (b : Int) (c : Int) (d : Int) = some true := by
      intro k hk
      obtain ⟨k, rfl⟩ : ∃ q, k = q + 1 := ⟨k - 1, by omega⟩
      rw [posternlaw15_SpanNarrow.l1, if_neg (by decide), hw]
      exact next _ (by omega)
    have t1 := turn_not x0 a b c d x y hx0 w j (n + 1) (by omega) (0 + 1) (.inr rfl) last
    exact turn_not x0 a b c d x y hx0 w j (n + 1 + 3) (by omega) 0 (.inl rfl) t1 k (by omega)
end
end SpanNarrowParts
open SpanNarrowParts

theorem first_true : posternlaw15_first.f 300 = some true := by decide +kernel

theorem SpanNarrow (a0 a1 a2 a3 a4 a5 a6 : Int) (_ : (Lit.int .i64 a0).wf = true) (w1 : (Lit.int .u64 a1).wf = true) (w2 : (Lit.int .u64 a2).wf = true) (w3 : (Lit.int .u64 a3).wf = true) (w4 : (Lit.int .u64 a4).wf = true) (w5 : (Lit.int .u64 a5).wf = true) (w6 : (Lit.int .u64 a6).wf = true) :
    ∃ k, posternlaw15_SpanNarrow.f k a0 a1 a2 a3 a4 a5 a6 = some true := by
  obtain ⟨a, rfl, ha⟩ := nat_of w1
  obtain ⟨b, rfl, hb⟩ := nat_of w2
  obtain ⟨c, rfl, hc⟩ := nat_of w3
  obtain ⟨d, rfl, hd⟩ := nat_of w4
  obtain ⟨u, rfl, hu⟩ := nat_of w5
  obtain ⟨v, rfl, hv⟩ := nat_of w6
  refine ⟨300, ?_⟩
  obtain ⟨x, ex, hx1, hx2⟩ := f_Member a b u hb hu
  obtain ⟨y, ey, hy1, hy2⟩ := f_Member c d v hd hv
  have last : ∀ k, 100 ≤ k → posternlaw15_SpanNarrow.l0 k a0 (x : Int) (y : Int) [true, false] 2 (0 + 1 + 1) (a : Int) (b : Int) (c : Int) (d : Int) = some true := by
    intro k hk
    obtain ⟨k, rfl⟩ : ∃ q, k = q + 1 := ⟨k - 1, by omega⟩
    rw [posternlaw15_SpanNarrow.l0, if_neg (by decide)]
  have t1 := turn_wide a0 a b c d x y hb hd hx1 hx2 hy1 hy2 100 (by omega) (0 + 1) false (Or.inr ⟨rfl, rfl⟩) last
  have t0 := turn_wide a0 a b c d x y hb hd hx1 hx2 hy1 hy2 110 (by omega) 0 true (Or.inl ⟨rfl, rfl⟩) t1
  have e2 : (([true, false] : List Bool).length : Int) = 2 := rfl
  unfold posternlaw15_SpanNarrow.f
  rw [first_true, Option.bind_some, if_pos rfl, ex, ey, Option.bind_some, Option.bind_some, Option.bind_some, e2]
  exact t0 300 (by omega)
end Go.Proofs.Ytladlljnpmpdpaa.Pure
