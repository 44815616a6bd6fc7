/- Plain: what span.Do makes of two spans holds whatever the operation makes of numbers of the two; constants give constants. -/
import Derived.Test.YtladlljnpmpdpaaPSpanSoundx
import Derived.Test.YtladlljnpmpdpaaSpDoSpanSound
namespace Go.Proofs.Ytladlljnpmpdpaa.Pure
open Go.RowKit Go.Proofs.Ytladlljnpmpdpaa.PSpanSound Go.Proofs.YtladlljnpmpdpaaW.PrintWords Go.Proofs.YtladlljnpmpdpaaW.PrintLast Go.Proofs.YtladlljnpmpdpaaW.PrintMore
open Go.Proofs.Ytladlljnpmpdpaa.Num Go.Proofs.Ytladlljnpmpdpaa.DoSpanSound Go.Proofs.Ytladlljnpmpdpaa.SpDoSpanSound
set_option linter.unusedVariables false
namespace SpanSoundParts
theorem f_Lo (a b : Nat) : posternref15_Lo.f (a : Int) (b : Int) = some (tlo a b : Int) := by
 unfold posternref15_Lo.f tlo
 by_cases h : a > b
 · rw [if_pos (by omega), if_pos h]; rfl
 · rw [if_neg (by omega), if_neg h]
theorem f_Hi (a b : Nat) : posternref15_Hi.f (a : Int) (b : Int) = some (thi a b : Int) := by
 unfold posternref15_Hi.f thi
 by_cases h : a > b
 · rw [if_pos (by omega), if_pos h]; rfl
 · rw [if_neg (by omega), if_neg h]
theorem f_Member (a b c : Nat) (hb : b < 18446744073709551616) (hc : c < 18446744073709551616) : ∃ m : Nat, posternref15_Member.f (a : Int) (b : Int) (c : Int) = some (m : Int) ∧ tlo a b ≤ m ∧ m ≤ thi a b := by
 obtain ⟨h1, h2⟩ := t_le (a := a) hb
 unfold posternref15_Member.f
 rw [f_Hi, f_Lo]
 simp only [Option.bind_some]
 generalize tlo a b = p at *; generalize thi a b = q at *
 rw [wrap_n (x := (q : Int) - (p : Int)) (n := q - p) (by omega) (by omega)]
 by_cases h : q - p = 18446744073709551615
 ·
  rw [if_pos (by omega)]
  exact ⟨c, rfl, by omega, by omega⟩
 ·
  rw [if_neg (by omega), wrap_n (x := ((q - p : Nat) : Int) + 1) (n := q - p + 1) (by omega) (by omega), if_neg (by omega), show Int.tmod (c : Int) ((q - p + 1 : Nat) : Int) = ((c % (q - p + 1) : Nat) : Int) by rw [Int.tmod_eq_emod_of_nonneg (by omega), Int.natCast_emod]]
  have hm := Nat.mod_lt c (show q - p + 1 > 0 by omega)
  generalize c % (q - p + 1) = z at *
  rw [wrap_n (n := p + z) (by omega) (by omega)]
  exact ⟨p + z, rfl, by omega, by omega⟩
theorem f_Has (a b v : Nat) : span_Has.f (a : Int) (b : Int) (v : Int) = some (decide (tlo a b ≤ v ∧ v ≤ thi a b)) := by
 unfold span_Has.f
 rw [f_tidy]
 simp only [Option.bind_some]
 generalize tlo a b = p; generalize thi a b = q
 by_cases h1 : p ≤ v
 ·
  rw [if_pos (by omega)]
  congr 1
  rw [decide_eq_decide]; omega
 · rw [if_neg (by omega), decide_eq_false (by omega)]
theorem f_In (a b v : Nat) : posternref15_In.f (a : Int) (b : Int) (v : Int) = some (decide (tlo a b ≤ v ∧ v ≤ thi a b)) := by
 unfold posternref15_In.f
 rw [f_Lo, f_Hi]
 simp only [Option.bind_some]
 generalize tlo a b = p; generalize thi a b = q
 by_cases h1 : p ≤ v
 ·
  rw [if_pos (by omega)]
  congr 1
  rw [decide_eq_decide]; omega
 · rw [if_neg (by omega), decide_eq_false (by omega)]
theorem ref_res (k : Nat) (hk : 210 ≤ k) (x0 : Int) (hx : x0 ∈ ops) (w : Bool) (x y : Nat) (h1 : x < 18446744073709551616) (h2 : y < 18446744073709551616) : posternref05_Do.f k x0 (if w then 64 else 32) (x : Int) (y : Int) = some ((resN x0 w x y : Int), true) := by
 cases w with
 | true => rw [if_pos rfl, ref_Do64 k hk x0 hx h1 h2]; rfl
 | false => rw [if_neg (by decide), ref_Do32 k hk x0 hx]; rfl
theorem law_turn (n : Nat) (hn : 230 ≤ n) (x0 : Int) (w : Bool) (i : Int) (hi : (w = true ∧ i = 0) ∨ (w = false ∧ i = 1)) (a b c d x y : Nat) (ha : a < 18446744073709551616) (hb : b < 18446744073709551616) (hc : c < 18446744073709551616) (hd : d < 18446744073709551616)
  (hx1 : tlo a b ≤ x) (hx2 : x ≤ thi a b) (hy1 : tlo c d ≤ y) (hy2 : y ≤ thi c d)
  (next : ∀ k, n ≤ k → posternlaw15_SpanSound.l0 k x0 (x : Int) (y : Int) [true, false] 2 (i + 1) (a : Int) (b : Int) (c : Int) (d : Int) = some true) :
  ∀ k, n + 2 ≤ k → posternlaw15_SpanSound.l0 k x0 (x : Int) (y : Int) [true, false] 2 i (a : Int) (b : Int) (c : Int) (d : Int) = some true := by
 intro k hk
 obtain ⟨k, rfl⟩ : ∃ q, k = q + 2 := ⟨k - 2, by omega⟩
 have hr : rdOf false ([true, false] : List Bool) i = w := by rcases hi with ⟨rfl, rfl⟩ | ⟨rfl, rfl⟩ <;> rfl
 have h1 : i < 2 := by omega
 have h0 : 0 ≤ i := by omega
 have hs : posternlaw15_size.f w = some (if w then 64 else 32) := by cases w <;> rfl
 have hw : wrap64 (i + 1) = i + 1 := by unfold wrap64; omega
 have hxl : x < 18446744073709551616 := by have := (t_le (a := a) hb).2; omega
 have hyl : y < 18446744073709551616 := by have := (t_le (a := c) hd).2; omega
 rw [posternlaw15_SpanSound.l0, if_pos h1, if_pos h0, if_pos (show i < ((List.length [true, false] : Nat) : Int) from h1), hr, hs, hw]
 simp only [span_Const.f, Option.bind_some]
 by_cases hx : x0 ∈ ops
 ·
  obtain ⟨L, U, e, e1, e2, e3, _⟩ := Do_spec (k + 1) (by omega) x0 hx w a b c d ha hb hc hd
  obtain ⟨lo', hi', f, f1, f2, f3, f4⟩ := Do_spec (k + 1) (by omega) x0 hx w x x y y hxl hxl hyl hyl
  obtain ⟨g1, g2⟩ := e3 x y hx1 hx2 hy1 hy2
  obtain ⟨g3, g4⟩ := f4 rfl rfl
  rw [e, ref_res (k + 1) (by omega) x0 hx w x y hxl hyl, f]
  simp only [Option.bind_some, if_true]
  rw [if_neg (by omega), if_neg (by omega), if_neg (by rw [g3, g4]; simp)]
  cases w with
  | true => rw [if_pos rfl]; exact next _ (by omega)
  | false =>
   have h32 : U < 4294967296 := e2
   rw [if_neg (by decide), if_pos (by omega)]; exact next _ (by omega)
 ·
  rw [Do_not (k + 1) x0 hx, ref_not (k + 1) (by omega) x0 _ _ _ hx]
  simp only [Option.bind_some]
  rw [Do_not (k + 1) x0 hx]
  simp only [Option.bind_some, Bool.false_eq_true, if_false, if_true]
  rw [posternlaw15_SpanSound.j2, if_neg (by decide), hw]
  exact next _ (by omega)
end SpanSoundParts
open SpanSoundParts
theorem first_true : posternlaw15_first.f 300 = some true := by decide +kernel
theorem SpanSound (a0 a1 a2 a3 a4 a5 a6 : Int) (_ : (Lit.int .i64 a0).wf = true) (w1 : (Lit.int .u64 a1).wf = true) (w2 : (Lit.int .u64 a2).wf = true) (w3 : (Lit.int .u64 a3).wf = true) (w4 : (Lit.int .u64 a4).wf = true) (w5 : (Lit.int .u64 a5).wf = true) (w6 : (Lit.int .u64 a6).wf = true) :
  ∃ k, posternlaw15_SpanSound.f k a0 a1 a2 a3 a4 a5 a6 = some true := by
 obtain ⟨a, rfl, ha⟩ := nat_of w1
 obtain ⟨b, rfl, hb⟩ := nat_of w2
 obtain ⟨c, rfl, hc⟩ := nat_of w3
 obtain ⟨d, rfl, hd⟩ := nat_of w4
 obtain ⟨u, rfl, hu⟩ := nat_of w5
 obtain ⟨v, rfl, hv⟩ := nat_of w6
 refine ⟨300, ?_⟩
 obtain ⟨x, ex, hx1, hx2⟩ := f_Member a b u hb hu
 obtain ⟨y, ey, hy1, hy2⟩ := f_Member c d v hd hv
 have hxl : x < 18446744073709551616 := by have := (t_le (a := a) hb).2; omega
 have last : ∀ k, 230 ≤ k → posternlaw15_SpanSound.l0 k a0 (x : Int) (y : Int) [true, false] 2 (0 + 1 + 1) (a : Int) (b : Int) (c : Int) (d : Int) = some true := by
  intro k hk
  obtain ⟨k, rfl⟩ : ∃ q, k = q + 1 := ⟨k - 1, by omega⟩
  rw [posternlaw15_SpanSound.l0, if_neg (by decide)]
 have t1 := law_turn 230 (by omega) a0 false (0 + 1) (Or.inr ⟨rfl, rfl⟩) a b c d x y ha hb hc hd hx1 hx2 hy1 hy2 last
 have t0 := law_turn 232 (by omega) a0 true 0 (Or.inl ⟨rfl, rfl⟩) a b c d x y ha hb hc hd hx1 hx2 hy1 hy2 t1
 have tail : posternlaw15_SpanSound.j0 300 a0 (x : Int) (y : Int) false (a : Int) (b : Int) (c : Int) (d : Int) = some true := by
  rw [posternlaw15_SpanSound.j0, if_neg (by decide)]
  exact t0 299 (by omega)
 have hany : span_Has.f 0 18446744073709551615 (x : Int) = some true := by
  have h := f_Has 0 18446744073709551615 x
  rw [decide_eq_true (by have t := t_eq (Nat.zero_le 18446744073709551615); rw [t.1, t.2]; omega)] at h
  exact h
 unfold posternlaw15_SpanSound.f
 rw [first_true]
 simp only [Option.bind_some, if_true]
 rw [ex, ey]
 simp only [Option.bind_some]
 rw [f_Has, f_Has, f_In, decide_eq_true ⟨hx1, hx2⟩]
 simp only [Option.bind_some, if_true, bne_self_eq_false, Bool.false_eq_true, if_false, span_Any.f, span_Const.f, hany, beq_self_eq_true, Bool.not_true, Bool.or_false]
 exact tail
end Go.Proofs.Ytladlljnpmpdpaa.Pure
