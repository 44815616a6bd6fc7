/- Plain: sums and differences of spans that can't run over, and mov, lose nothing. -/
import Derived.Test.YtladlljnpmpdpaaPSpanBestx
import Derived.Test.YtladlljnpmpdpaaSpDoSpanBest
namespace Go.Proofs.Ytladlljnpmpdpaa.Pure
open Go.RowKit Go.Proofs.Ytladlljnpmpdpaa.PSpanBest Go.Proofs.YtladlljnpmpdpaaW.PrintWords Go.Proofs.YtladlljnpmpdpaaW.PrintLast Go.Proofs.YtladlljnpmpdpaaW.PrintMore
open Go.Proofs.Ytladlljnpmpdpaa.Num Go.Proofs.Ytladlljnpmpdpaa.AluSpanBest Go.Proofs.Ytladlljnpmpdpaa.SpDoSpanBest

namespace SpanBestParts
theorem f_Lo (a b : Nat) : posternref15_Lo.f (a : Int) (b : Int) = some (tlo a b : Int) := by
  unfold posternref15_Lo.f tlo
  by_cases h : a > b
  · rw [if_pos (by omega), if_pos h]; rfl
  · rw [if_neg (by omega), if_neg h]
theorem f_Hi (a b : Nat) : posternref15_Hi.f (a : Int) (b : Int) = some (thi a b : Int) := by
  unfold posternref15_Hi.f thi
  by_cases h : a > b
  · rw [if_pos (by omega), if_pos h]; rfl
  · rw [if_neg (by omega), if_neg h]
/-- Do of 64 bits, an operation of two operands: as far as the last step. -/
theorem Do_step (k : Nat) (x0 : Int) (hx0 : x0 ∈ ops) (hneg : ¬ x0 = 128) (a b c d : Nat) :
    span_Do.f (k + 4) x0 true (a : Int) (b : Int) (c : Int) (d : Int) =
      span_Do.j2 (k + 2) x0 true 18446744073709551615 (decide (tlo c d = thi c d ∧ (tlo a b = thi a b ∨ x0 = 176))) (tlo a b : Int) (thi a b : Int) (tlo c d : Int) (thi c d : Int) := by
  have h0 : alu_Do.f x0 true 0 0 = some ((val x0 64 0 0 : Int), 0) := alu_Do64 x0 hx0 (a := 0) (b := 0) (by decide) (by decide)
  unfold span_Do.f
  rw [h0]
  simp only [Option.bind_some, if_true]
  rw [f_tidy, f_tidy]
  simp only [Option.bind_some]
  generalize tlo a b = p; generalize thi a b = q; generalize tlo c d = r; generalize thi c d = s
  rw [span_Do.j0, if_neg hneg, span_Do.j1, f_one, f_one]
  simp only [Option.bind_some, decide_eq_true_eq]
  by_cases h1 : r = s
  · rw [if_pos h1]
    by_cases h2 : p = q
    · rw [if_pos h2, decide_eq_true ⟨h1, .inl h2⟩]
    · rw [if_neg h2]
      by_cases h3 : x0 = 176
      · rw [if_pos h3, decide_eq_true ⟨h1, .inr h3⟩]
      · rw [if_neg h3, beq_eq_false_iff_ne.mpr hneg, decide_eq_false (fun h => h.2.elim h2 h3)]
  · rw [if_neg h1, decide_eq_false (fun h => h1 h.1)]
theorem j2_true (k : Nat) (x0 : Int) (hx0 : x0 ∈ ops) (p q r s : Nat) (hp : p < 18446744073709551616) (hr : r < 18446744073709551616) :
    span_Do.j2 (k + 1) x0 true 18446744073709551615 true (p : Int) (q : Int) (r : Int) (s : Int) = some ((val x0 64 p r : Int), (val x0 64 p r : Int), 0) := by
  rw [span_Do.j2, if_pos rfl, alu_Do64 x0 hx0 hp hr]
  simp only [Option.bind_some, span_Const.f]
theorem j2_false (k : Nat) (x0 : Int) (p q r s lo hi : Nat) (h : span_do.f k x0 18446744073709551615 (p : Int) (q : Int) (r : Int) (s : Int) = some ((lo : Int), (hi : Int))) (h1 : lo ≤ hi) (h2 : hi < 18446744073709551616) :
    span_Do.j2 (k + 1) x0 true 18446744073709551615 false (p : Int) (q : Int) (r : Int) (s : Int) = some ((lo : Int), (hi : Int), 0) := by
  rw [span_Do.j2, if_neg (by decide), h]
  simp only [Option.bind_some]
  rw [if_neg (by omega), if_neg (by omega)]
theorem do_f (k : Nat) (x0 p q r s : Int) : span_do.f (k + 1) x0 18446744073709551615 p q r s = span_do.j0 (k + 1) x0 18446744073709551615 (Go.bits .and .u64 r 63) p q r s 0 18446744073709551615 := by
  unfold span_do.f
  rw [if_pos rfl]
theorem add_ (k : Nat) (a b c d : Nat) (hb : b < 18446744073709551616) (hd : d < 18446744073709551616) (h : thi a b + thi c d < 18446744073709551616) :
    span_Do.f (k + 4) 0 true (a : Int) (b : Int) (c : Int) (d : Int) = some (((tlo a b + tlo c d : Nat) : Int), ((thi a b + thi c d : Nat) : Int), 0) := by
  rw [Do_step k 0 (by decide) (by decide)]
  obtain ⟨h1, h2⟩ := t_le (a := a) hb
  obtain ⟨h3, h4⟩ := t_le (a := c) hd
  generalize tlo a b = p at *; generalize thi a b = q at *; generalize tlo c d = r at *; generalize thi c d = s at *
  by_cases hc : r = s ∧ (p = q ∨ (0 : Int) = 176)
  · obtain ⟨e1, e2⟩ := hc
    have e2 : p = q := e2.elim id (fun h => absurd h (by decide))
    rw [decide_eq_true ⟨e1, .inl e2⟩, j2_true (k + 1) 0 (by decide) p q r s (by omega) (by omega)]
    have : val 0 64 p r = p + r := by
      simp only [val, if_true]
      exact Nat.mod_eq_of_lt (by omega)
    rw [this, ← e1, ← e2]
  · rw [decide_eq_false hc]
    refine j2_false (k + 1) 0 p q r s (p + r) (q + s) ?_ (by omega) (by omega)
    rw [do_f]
    simp only [span_do.j0, if_true]
    rw [wrap_n (n := 18446744073709551615 - s) (by omega) (by omega), if_pos (by omega), wrap_n (n := p + r) (by omega) (by omega), wrap_n (n := q + s) (by omega) (by omega)]
theorem sub_ (k : Nat) (a b c d : Nat) (hb : b < 18446744073709551616) (hd : d < 18446744073709551616) (h : thi c d ≤ tlo a b) :
    span_Do.f (k + 4) 16 true (a : Int) (b : Int) (c : Int) (d : Int) = some (((tlo a b - thi c d : Nat) : Int), ((thi a b - tlo c d : Nat) : Int), 0) := by
  rw [Do_step k 16 (by decide) (by decide)]
  obtain ⟨h1, h2⟩ := t_le (a := a) hb
  obtain ⟨h3, h4⟩ := t_le (a := c) hd
  generalize tlo a b = p at *; generalize thi a b = q at *; generalize tlo c d = r at *; generalize thi c d = s at *
  by_cases hc : r = s ∧ (p = q ∨ (16 : Int) = 176)
  · obtain ⟨e1, e2⟩ := hc
    have e2 : p = q := e2.elim id (fun h => absurd h (by decide))
    rw [decide_eq_true ⟨e1, .inl e2⟩, j2_true (k + 1) 16 (by decide) p q r s (by omega) (by omega)]
    have : val 16 64 p r = p - r := by
      simp only [val, Int.reduceEq, if_true, if_false]
      rw [show p + (2 ^ 64 - r) = p - r + 2 ^ 64 by omega, Nat.add_mod_right, Nat.mod_eq_of_lt (by omega)]
    rw [this, ← e1, ← e2]
  · rw [decide_eq_false hc]
    refine j2_false (k + 1) 16 p q r s (p - s) (q - r) ?_ (by omega) (by omega)
    rw [do_f]
    simp only [span_do.j0, Int.reduceEq, if_true, if_false]
    rw [if_pos (by omega), wrap_n (n := p - s) (by omega) (by omega), wrap_n (n := q - r) (by omega) (by omega)]
theorem mov_ (k : Nat) (a b c d : Nat) (hb : b < 18446744073709551616) (hd : d < 18446744073709551616) :
    span_Do.f (k + 4) 176 true (a : Int) (b : Int) (c : Int) (d : Int) = some ((tlo c d : Int), (thi c d : Int), 0) := by
  rw [Do_step k 176 (by decide) (by decide)]
  obtain ⟨h1, h2⟩ := t_le (a := a) hb
  obtain ⟨h3, h4⟩ := t_le (a := c) hd
  generalize tlo a b = p at *; generalize thi a b = q at *; generalize tlo c d = r at *; generalize thi c d = s at *
  by_cases hc : r = s ∧ (p = q ∨ (176 : Int) = 176)
  · rw [decide_eq_true hc, j2_true (k + 1) 176 (by decide) p q r s (by omega) (by omega)]
    have : val 176 64 p r = r := by simp only [val, Int.reduceEq, if_true, if_false]
    rw [this, ← hc.1]
  · rw [decide_eq_false hc]
    refine j2_false (k + 1) 176 p q r s r s ?_ h3 h4
    rw [do_f]
    simp only [span_do.j0, Int.reduceEq, if_true, if_false]
theorem Do_some (k : Nat) (x0 : Int) (hx0 : x0 ∈ ops) (a b c d : Nat) (ha : a < 18446744073709551616) (hb : b < 18446744073709551616) (hc : c < 18446744073709551616) (hd : d < 18446744073709551616) :
    ∃ t : Int × Int × Int, span_Do.f (k + 5) x0 true (a : Int) (b : Int) (c : Int) (d : Int) = some t := by
  obtain ⟨lo, hi, e, _⟩ := Do_spec (k + 5) (by omega) x0 hx0 true a b c d ha hb hc hd
  exact ⟨_, e⟩
end SpanBestParts
open SpanBestParts

theorem first_true : posternlaw15_first.f 300 = some true := by decide +kernel

theorem SpanBest (a0 a1 a2 a3 : Int) (w0 : (Lit.int .u64 a0).wf = true) (w1 : (Lit.int .u64 a1).wf = true) (w2 : (Lit.int .u64 a2).wf = true) (w3 : (Lit.int .u64 a3).wf = true) :
    ∃ k, posternlaw15_SpanBest.f k a0 a1 a2 a3 = some true := by
  obtain ⟨a, rfl, ha⟩ := nat_of w0
  obtain ⟨b, rfl, hb⟩ := nat_of w1
  obtain ⟨c, rfl, hc⟩ := nat_of w2
  obtain ⟨d, rfl, hd⟩ := nat_of w3
  refine ⟨300, ?_⟩
  unfold posternlaw15_SpanBest.f
  rw [first_true]
  simp only [Option.bind_some, if_true]
  rw [f_Lo, f_Hi, f_Lo, f_Hi]
  simp only [Option.bind_some]
  obtain ⟨⟨s1, s2, s3⟩, hs⟩ := Do_some 295 0 (by decide) a b c d ha hb hc hd
  obtain ⟨⟨d1, d2, d3⟩, hd'⟩ := Do_some 295 16 (by decide) a b c d ha hb hc hd
  have hm := mov_ 296 a b c d hb hd
  rw [show (295 + 5 : Nat) = 300 from rfl] at hs hd'
  rw [show (296 + 4 : Nat) = 300 from rfl] at hm
  rw [hs, hd', hm]
  simp only [Option.bind_some]
  have S : thi a b + thi c d < 18446744073709551616 → s1 = ((tlo a b + tlo c d : Nat) : Int) ∧ s2 = ((thi a b + thi c d : Nat) : Int) := by
    intro h
    have e := add_ 296 a b c d hb hd h
    rw [show (296 + 4 : Nat) = 300 from rfl, hs] at e
    simp only [Option.some.injEq, Prod.mk.injEq] at e
    exact ⟨e.1, e.2.1⟩
  have D : thi c d ≤ tlo a b → d1 = ((tlo a b - thi c d : Nat) : Int) ∧ d2 = ((thi a b - tlo c d : Nat) : Int) := by
    intro h
    have e := sub_ 296 a b c d hb hd h
    rw [show (296 + 4 : Nat) = 300 from rfl, hd'] at e
    simp only [Option.some.injEq, Prod.mk.injEq] at e
    exact ⟨e.1, e.2.1⟩
  obtain ⟨h1, h2⟩ := t_le (a := a) hb
  obtain ⟨h3, h4⟩ := t_le (a := c) hd
  generalize tlo a b = p at *; generalize thi a b = q at *; generalize tlo c d = r at *; generalize thi c d = s at *
  have last : (if (p : Int) < (s : Int) then some true else some (d1 == IntKind.u64.wrap ((p : Int) - (s : Int)) && d2 == IntKind.u64.wrap ((q : Int) - (r : Int)))) = some true := by
    by_cases h : p < s
    · rw [if_pos (by omega)]
    · rw [if_neg (by omega), wrap_n (n := p - s) (by omega) (by omega), wrap_n (n := q - r) (by omega) (by omega), (D (by omega)).1, (D (by omega)).2]
      simp
  rw [if_neg (by simp), wrap_n (n := 18446744073709551615 - s) (by omega) (by omega)]
  by_cases h : q + s < 18446744073709551616
  · rw [if_pos (by omega), wrap_n (n := p + r) (by omega) (by omega), wrap_n (n := q + s) (by omega) (by omega), (S h).1, (S h).2, if_neg (by simp)]
    exact last
  · rw [if_neg (by omega)]
    exact last
end Go.Proofs.Ytladlljnpmpdpaa.Pure
