/- Plain: a row of operations in spans holds whatever the row makes of any numbers of the first two. -/
import Derived.Test.YtladlljnpmpdpaaPSpanChainsx
import Derived.Test.YtladlljnpmpdpaaSpDoSpanChains
namespace Go.Proofs.Ytladlljnpmpdpaa.Pure
open Go.RowKit Go.Proofs.Ytladlljnpmpdpaa.PSpanChains Go.Proofs.YtladlljnpmpdpaaW.PrintWords Go.Proofs.YtladlljnpmpdpaaW.PrintLast Go.Proofs.YtladlljnpmpdpaaW.PrintMore
open Go.Proofs.Ytladlljnpmpdpaa.Num Go.Proofs.Ytladlljnpmpdpaa.DoSpanChains Go.Proofs.Ytladlljnpmpdpaa.SpDoSpanChains

set_option linter.unusedVariables false
namespace SpanChainsParts
theorem f_Lo (a b : Nat) : posternref15_Lo.f (a : Int) (b : Int) = some (tlo a b : Int) := by
  unfold posternref15_Lo.f tlo
  by_cases h : a > b
  · rw [if_pos (by omega), if_pos h]; rfl
  · rw [if_neg (by omega), if_neg h]
theorem f_Hi (a b : Nat) : posternref15_Hi.f (a : Int) (b : Int) = some (thi a b : Int) := by
  unfold posternref15_Hi.f thi
  by_cases h : a > b
  · rw [if_pos (by omega), if_pos h]; rfl
  · rw [if_neg (by omega), if_neg h]
theorem f_Member (a b c : Nat) (hb : b < 18446744073709551616) (hc : c < 18446744073709551616) : ∃ m : Nat, posternref15_Member.f (a : Int) (b : Int) (c : Int) = some (m : Int) ∧ tlo a b ≤ m ∧ m ≤ thi a b := by
  obtain ⟨h1, h2⟩ := t_le (a := a) hb
  unfold posternref15_Member.f
  rw [f_Hi, f_Lo]
  simp only [Option.bind_some]
  generalize tlo a b = p at *; generalize thi a b = q at *
  rw [wrap_n (x := (q : Int) - (p : Int)) (n := q - p) (by omega) (by omega)]
  by_cases h : q - p = 18446744073709551615
  · rw [if_pos (by omega)]
    exact ⟨c, rfl, by omega, by omega⟩
  · rw [if_neg (by omega), wrap_n (x := ((q - p : Nat) : Int) + 1) (n := q - p + 1) (by omega) (by omega), if_neg (by omega), show Int.tmod (c : Int) ((q - p + 1 : Nat) : Int) = ((c % (q - p + 1) : Nat) : Int) by rw [Int.tmod_eq_emod_of_nonneg (by omega), Int.natCast_emod]]
    have hm := Nat.mod_lt c (show q - p + 1 > 0 by omega)
    generalize c % (q - p + 1) = z at *
    rw [wrap_n (n := p + z) (by omega) (by omega)]
    exact ⟨p + z, rfl, by omega, by omega⟩
theorem f_Has (a b v : Nat) : span_Has.f (a : Int) (b : Int) (v : Int) = some (decide (tlo a b ≤ v ∧ v ≤ thi a b)) := by
  unfold span_Has.f
  rw [f_tidy]
  simp only [Option.bind_some]
  generalize tlo a b = p; generalize thi a b = q
  by_cases h1 : p ≤ v
  · rw [if_pos (by omega)]
    congr 1
    rw [decide_eq_decide]; omega
  · rw [if_neg (by omega), decide_eq_false (by omega)]
theorem ref_res (k : Nat) (hk : 210 ≤ k) (x0 : Int) (hx : x0 ∈ ops) (w : Bool) (x y : Nat) (h1 : x < 18446744073709551616) (h2 : y < 18446744073709551616) : posternref05_Do.f k x0 (if w then 64 else 32) (x : Int) (y : Int) = some ((resN x0 w x y : Int), true) := by
  cases w with
  | true => rw [if_pos rfl, ref_Do64 k hk x0 hx h1 h2]; rfl
  | false => rw [if_neg (by decide), ref_Do32 k hk x0 hx]; rfl
theorem kind_ops (x : Int) : ∃ k0 : Int, wrap64 ((wrap64 (Int.tmod (IntKind.u64.wrap x) 13)) * 16) = k0 ∧ k0 ∈ ops := by
  refine ⟨_, rfl, ?_⟩
  have h : 0 ≤ IntKind.u64.wrap x := by rw [IntKind.wrap_u64]; omega
  rw [Int.tmod_eq_emod_of_nonneg h]
  generalize IntKind.u64.wrap x = z at *
  have h2 : 0 ≤ z % 13 ∧ z % 13 < 13 := by omega
  generalize z % 13 = y at *
  rw [show wrap64 y = y by unfold wrap64; omega, show wrap64 (y * 16) = y * 16 by unfold wrap64; omega]
  unfold ops
  simp only [List.mem_cons, List.not_mem_nil, or_false]
  omega
/-- A turn, and what is left: every two spans that hold x and y. -/
theorem loop (l : List Int) (hl : (l.length : Int) ≤ 1000000000000000000) : ∀ (n : Nat) (i : Nat), i + n = l.length → ∀ (k : Nat), min n 20 + 20 + 230 ≤ k + min i 20 → ∀ (a b c d x y : Nat), a < 18446744073709551616 → b < 18446744073709551616 → c < 18446744073709551616 → d < 18446744073709551616 →
    tlo a b ≤ x → x ≤ thi a b → tlo c d ≤ y → y ≤ thi c d → posternlaw15_SpanChains.l0 k (x : Int) (y : Int) l (l.length : Int) (i : Int) (a : Int) (b : Int) (c : Int) (d : Int) = some true := by
  intro n
  induction n with
  | zero =>
    intro i hi k hk a b c d x y _ _ _ _ h1 h2 h3 h4
    obtain ⟨k, rfl⟩ : ∃ q, k = q + 1 := ⟨k - 1, by omega⟩
    rw [posternlaw15_SpanChains.l0, if_neg (by omega), f_Has, f_Has, decide_eq_true ⟨h1, h2⟩, decide_eq_true ⟨h3, h4⟩]
    rfl
  | succ n ih =>
    intro i hi k hk a b c d x y ha hb hc hd h1 h2 h3 h4
    obtain ⟨k, rfl⟩ : ∃ q, k = q + 1 := ⟨k - 1, by omega⟩
    rw [posternlaw15_SpanChains.l0, if_pos (by omega), if_pos (by omega), if_pos (by omega)]
    by_cases h20 : i ≥ 20
    · rw [if_pos (by omega), f_Has, f_Has, decide_eq_true ⟨h1, h2⟩, decide_eq_true ⟨h3, h4⟩]
      rfl
    · rw [if_neg (by omega)]
      have hxl : x < 18446744073709551616 := by have := (t_le (a := a) hb).2; omega
      have hyl : y < 18446744073709551616 := by have := (t_le (a := c) hd).2; omega
      obtain ⟨k0, ek, hk0⟩ := kind_ops (rd l (i : Int))
      rw [ek]
      generalize (Int.tmod (IntKind.u64.wrap (Int.tdiv (IntKind.u64.wrap (rd l (i : Int))) 13)) 2 == 0) = w
      have hs : posternlaw15_size.f w = some (if w then 64 else 32) := by cases w <;> rfl
      obtain ⟨lo, hi, e, e1, e2, e3, _⟩ := Do_spec k (by omega) k0 hk0 w a b c d ha hb hc hd
      obtain ⟨g1, g2⟩ := e3 x y h1 h2 h3 h4
      have hhi : hi < 18446744073709551616 := Nat.lt_of_lt_of_le e2 (by cases w <;> decide)
      rw [e, hs]
      simp only [Option.bind_some]
      rw [ref_res k (by omega) k0 hk0 w x y hxl hyl]
      simp only [Option.bind_some, if_true]
      rw [if_neg (by omega), if_neg (by omega), show wrap64 ((i : Int) + 1) = ((i + 1 : Nat) : Int) by unfold wrap64; omega]
      obtain ⟨z1, z2⟩ := t_eq e1
      exact ih (i + 1) (by omega) k (by omega) c d lo hi y (resN k0 w x y) hc hd (by omega) hhi h3 h4 (by rw [z1]; exact g1) (by rw [z2]; exact g2)
end SpanChainsParts
open SpanChainsParts

theorem first_true : posternlaw15_first.f 300 = some true := by decide +kernel

theorem SpanChains (l0 : List Int) (a1 a2 a3 a4 a5 a6 : Int) (_ : l0.length ≤ maxLen) (hl : l0.length * 8 ≤ 140737488351232) (_ : ∀ n ∈ l0, (Lit.int .i64 n).wf = true) (w1 : (Lit.int .u64 a1).wf = true) (w2 : (Lit.int .u64 a2).wf = true) (w3 : (Lit.int .u64 a3).wf = true) (w4 : (Lit.int .u64 a4).wf = true) (w5 : (Lit.int .u64 a5).wf = true) (w6 : (Lit.int .u64 a6).wf = true) :
    ∃ k, posternlaw15_SpanChains.f k l0 a1 a2 a3 a4 a5 a6 = some true := by
  obtain ⟨a, rfl, ha⟩ := nat_of w1
  obtain ⟨b, rfl, hb⟩ := nat_of w2
  obtain ⟨c, rfl, hc⟩ := nat_of w3
  obtain ⟨d, rfl, hd⟩ := nat_of w4
  obtain ⟨u, rfl, hu⟩ := nat_of w5
  obtain ⟨v, rfl, hv⟩ := nat_of w6
  refine ⟨300, ?_⟩
  obtain ⟨x, ex, hx1, hx2⟩ := f_Member a b u hb hu
  obtain ⟨y, ey, hy1, hy2⟩ := f_Member c d v hd hv
  unfold posternlaw15_SpanChains.f
  rw [first_true]
  simp only [Option.bind_some, if_true]
  rw [ex, ey]
  simp only [Option.bind_some]
  exact loop l0 (by omega) l0.length 0 (by omega) 300 (by omega) a b c d x y ha hb hc hd hx1 hx2 hy1 hy2
end Go.Proofs.Ytladlljnpmpdpaa.Pure
