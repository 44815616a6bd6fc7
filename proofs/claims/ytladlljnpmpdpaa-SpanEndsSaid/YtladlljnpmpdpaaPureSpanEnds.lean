/- Plain: narrowing by an order, or by sameness, leaves no end that has no partner, and says that there is no pair just if there is none. -/
import Derived.Test.YtladlljnpmpdpaaPSpanEndsx
import Derived.Test.YtladlljnpmpdpaaSpNhSpanEnds
namespace Go.Proofs.Ytladlljnpmpdpaa.Pure
open Go.RowKit Go.Proofs.Ytladlljnpmpdpaa.PSpanEnds Go.Proofs.YtladlljnpmpdpaaW.PrintWords Go.Proofs.YtladlljnpmpdpaaW.PrintLast Go.Proofs.YtladlljnpmpdpaaW.PrintMore
open Go.Proofs.Ytladlljnpmpdpaa.Num Go.Proofs.Ytladlljnpmpdpaa.SpNarSpanEnds Go.Proofs.Ytladlljnpmpdpaa.SpNhSpanEnds

set_option linter.unusedVariables false
namespace SpanEndsParts
theorem f_In (a b v : Nat) : posternref15_In.f (a : Int) (b : Int) (v : Int) = some (decide (tlo a b ≤ v ∧ v ≤ thi a b)) := by
  unfold posternref15_In.f
  rw [f_Lo, f_Hi]
  simp only [Option.bind_some]
  generalize tlo a b = p; generalize thi a b = q
  by_cases h1 : p ≤ v
  · rw [if_pos (by omega)]
    congr 1
    rw [decide_eq_decide]; omega
  · rw [if_neg (by omega), decide_eq_false (by omega)]
theorem pair_16 (k : Nat) (h left : Bool) (v a b : Nat) : posternlaw15_pair.f k 16 h (v : Int) (a : Int) (b : Int) left = some (decide (tlo a b ≤ v ∧ v ≤ thi a b)) := by
  unfold posternlaw15_pair.f
  rw [if_pos rfl, f_In]; rfl
/-- Is it a pair as it should be? -/
def T (x0 : Int) (h left : Bool) (v w : Int) : Prop := if left = true then ou x0 v w = h else ou x0 w v = h
instance (x0 : Int) (h left : Bool) (v w : Int) : Decidable (T x0 h left v w) := by unfold T; infer_instance
theorem kinds_conds {x0 : Int} (h : x0 ∈ kinds) : x0 ∈ conds := by unfold conds; exact List.mem_append.2 (.inl h)
theorem holds_at (k : Nat) (hk : 70 ≤ k) (x0 : Int) (hx0 : x0 ∈ kinds) (x y : Nat) (hx : x < 18446744073709551616) (hy : y < 18446744073709551616) :
    posternref05_Holds.f k x0 64 (x : Int) (y : Int) = some (ou x0 (x : Int) (y : Int), true) := by
  have h := ref_hold k hk x0 true x y hx hy
  rw [if_pos rfl, if_pos (kinds_conds hx0), decide_eq_true (kinds_conds hx0)] at h
  rw [h, hold_small (.inl rfl), cnd_kinds hx0]
theorem pair_turn (k : Nat) (hk : 70 ≤ k) (x0 : Int) (hx0 : x0 ∈ kinds) (h left : Bool) (v w0 w1 : Nat) (hv : v < 18446744073709551616) (h0 : w0 < 18446744073709551616) (h1 : w1 < 18446744073709551616) (i : Nat) (hi : i < 2) :
    posternlaw15_pair.l0 (k + 1) x0 h (v : Int) left [(w0 : Int), (w1 : Int)] 2 (i : Int) = if T x0 h left (v : Int) ((if i = 0 then w0 else w1 : Nat) : Int) then some true else posternlaw15_pair.l0 k x0 h (v : Int) left [(w0 : Int), (w1 : Int)] 2 ((i + 1 : Nat) : Int) := by
  have hr : rd [(w0 : Int), (w1 : Int)] (i : Int) = ((if i = 0 then w0 else w1 : Nat) : Int) := by
    rcases (show i = 0 ∨ i = 1 by omega) with rfl | rfl <;> rfl
  have hw : (if i = 0 then w0 else w1 : Nat) < 18446744073709551616 := by by_cases h : i = 0 <;> simp [h, h0, h1]
  rw [posternlaw15_pair.l0, if_pos (by omega), if_pos (by omega), if_pos (show (i : Int) < ((List.length [(w0 : Int), (w1 : Int)] : Nat) : Int) by simp only [List.length_cons, List.length_nil]; omega), hr, show wrap64 ((i : Int) + 1) = ((i + 1 : Nat) : Int) by unfold wrap64; omega]
  generalize (if i = 0 then w0 else w1 : Nat) = w at *
  cases left with
  | true =>
    rw [if_pos rfl, holds_at k hk x0 hx0 v w hv hw]
    simp only [Option.bind_some]
    by_cases c : ou x0 (v : Int) (w : Int) = h
    · rw [if_pos (by rw [c]; simp), if_pos (show T x0 h true (v : Int) (w : Int) from by unfold T; rw [if_pos rfl]; exact c)]
    · rw [if_neg (by simpa using c), if_neg (show ¬ T x0 h true (v : Int) (w : Int) from by unfold T; rw [if_pos rfl]; exact c)]
  | false =>
    rw [if_neg (by decide), holds_at k hk x0 hx0 w v hw hv]
    simp only [Option.bind_some]
    by_cases c : ou x0 (w : Int) (v : Int) = h
    · rw [if_pos (by rw [c]; simp), if_pos (show T x0 h false (v : Int) (w : Int) from by unfold T; rw [if_neg (by decide)]; exact c)]
    · rw [if_neg (by simpa using c), if_neg (show ¬ T x0 h false (v : Int) (w : Int) from by unfold T; rw [if_neg (by decide)]; exact c)]
theorem pair_f (k : Nat) (hk : 80 ≤ k) (x0 : Int) (hx0 : x0 ∈ kinds) (hne : x0 ≠ 16) (h left : Bool) (v a b : Nat) (hv : v < 18446744073709551616) (ha : a < 18446744073709551616) (hb : b < 18446744073709551616) :
    posternlaw15_pair.f k x0 h (v : Int) (a : Int) (b : Int) left = some (decide (T x0 h left (v : Int) (tlo a b : Int) ∨ T x0 h left (v : Int) (thi a b : Int))) := by
  obtain ⟨k, rfl⟩ : ∃ q, k = q + 3 := ⟨k - 3, by omega⟩
  obtain ⟨t1, t2⟩ := t_le (a := a) hb
  have e0 := pair_turn (k + 2) (by omega) x0 hx0 h left v (tlo a b) (thi a b) hv (by omega) t2 0 (by omega)
  have e1 := pair_turn (k + 1) (by omega) x0 hx0 h left v (tlo a b) (thi a b) hv (by omega) t2 1 (by omega)
  rw [show (if (0 : Nat) = 0 then tlo a b else thi a b) = tlo a b from rfl] at e0
  rw [show (if (1 : Nat) = 0 then tlo a b else thi a b) = thi a b from rfl] at e1
  unfold posternlaw15_pair.f
  rw [if_neg hne, f_Lo, f_Hi]
  simp only [Option.bind_some]
  refine e0.trans ?_
  by_cases c0 : T x0 h left (v : Int) (tlo a b : Int)
  · rw [if_pos c0, decide_eq_true (.inl c0)]
  · rw [if_neg c0]
    refine e1.trans ?_
    by_cases c1 : T x0 h left (v : Int) (thi a b : Int)
    · rw [if_pos c1, decide_eq_true (.inr c1)]
    · rw [if_neg c1, decide_eq_false (fun h => h.elim c0 c1), posternlaw15_pair.l0, if_neg (by omega)]

theorem ends (k : Nat) (hk : 100 ≤ k) (x0 : Int) (hx0 : x0 ∈ kinds) (h80 : x0 ≠ 80) (h : Bool) (h16 : x0 = 16 → h = true) (a b c d : Nat) (ha : a < 18446744073709551616) (hb : b < 18446744073709551616) (hc : c < 18446744073709551616) (hd : d < 18446744073709551616) :
    posternlaw15_SpanEnds.j0 k h x0 (a : Int) (b : Int) (c : Int) (d : Int) = some true := by
  obtain ⟨k, rfl⟩ : ∃ q, k = q + 1 := ⟨k - 1, by omega⟩
  obtain ⟨a1, a2, b1, b2, ok, e, g1, g2, g3, g4⟩ := Narrow_in k (by omega) x0 (kinds_conds hx0) true h a b c d hb hd
  obtain ⟨t1, t2⟩ := t_le (a := a) hb
  obtain ⟨t3, t4⟩ := t_le (a := c) hd
  rw [posternlaw15_SpanEnds.j0, e]
  cases ok with
  | true =>
    obtain ⟨z1, z2, z3, z4, z5, z6⟩ := g1.2 rfl
    obtain ⟨a1, rfl⟩ : ∃ n : Nat, a1 = (n : Int) := ⟨a1.toNat, by omega⟩
    obtain ⟨a2, rfl⟩ : ∃ n : Nat, a2 = (n : Int) := ⟨a2.toNat, by omega⟩
    obtain ⟨b1, rfl⟩ : ∃ n : Nat, b1 = (n : Int) := ⟨b1.toNat, by omega⟩
    obtain ⟨b2, rfl⟩ : ∃ n : Nat, b2 = (n : Int) := ⟨b2.toNat, by omega⟩
    simp only [if_true, Option.bind_some]
    by_cases hx : x0 = 16
    · subst hx
      have hh := h16 rfl
      subst hh
      obtain ⟨y1, y2⟩ := (g3 rfl rfl rfl).1 rfl
      rw [pair_16, decide_eq_true (by omega)]
      simp only [Option.bind_some, if_true]
      rw [pair_16, decide_eq_true (by omega)]
      simp only [Option.bind_some, if_true]
      rw [pair_16, decide_eq_true (by omega)]
      simp only [Option.bind_some, if_true]
      rw [pair_16, decide_eq_true (by omega)]
      rfl
    · obtain ⟨y1, y2, y3, y4⟩ := (g4 rfl hx0 hx h80).1 rfl
      have L : ∀ v w : Int, T x0 h true v w ↔ ou x0 v w = h := fun v w => by unfold T; rw [if_pos rfl]
      have R : ∀ v w : Int, T x0 h false v w ↔ ou x0 w v = h := fun v w => by unfold T; rw [if_neg (by decide)]
      rw [pair_f k (by omega) x0 hx0 hx h true a1 c d (by omega) hc hd, decide_eq_true (by rw [L, L]; exact y1)]
      simp only [Option.bind_some, if_true]
      rw [pair_f k (by omega) x0 hx0 hx h true a2 c d (by omega) hc hd, decide_eq_true (by rw [L, L]; exact y2)]
      simp only [Option.bind_some, if_true]
      rw [pair_f k (by omega) x0 hx0 hx h false b1 a b (by omega) ha hb, decide_eq_true (by rw [R, R]; exact y3)]
      simp only [Option.bind_some, if_true]
      rw [pair_f k (by omega) x0 hx0 hx h false b2 a b (by omega) ha hb, decide_eq_true (by rw [R, R]; exact y4)]
      rfl
  | false =>
    simp only [if_true, Bool.false_eq_true, if_false, Option.bind_some]
    rw [f_Lo]
    simp only [Option.bind_some]
    by_cases hx : x0 = 16
    · subst hx
      have hh := h16 rfl
      subst hh
      have y := (g3 rfl rfl rfl).2 rfl
      rw [pair_16, decide_eq_false (by omega)]
      simp only [Option.bind_some, Bool.false_eq_true, if_false]
      rw [f_Hi]
      simp only [Option.bind_some]
      rw [pair_16, decide_eq_false (by omega)]
      simp only [Option.bind_some, Bool.false_eq_true, if_false, if_true]
      rw [f_Lo]
      simp only [Option.bind_some]
      rw [pair_16, decide_eq_false (by omega)]
      rfl
    · obtain ⟨y1, y2, y3, y4⟩ := (g4 rfl hx0 hx h80).2 rfl
      have L : ∀ v w : Int, T x0 h true v w ↔ ou x0 v w = h := fun v w => by unfold T; rw [if_pos rfl]
      rw [pair_f k (by omega) x0 hx0 hx h true _ c d (by omega) hc hd, decide_eq_false (by rw [L, L]; exact fun h => h.elim y1 y2)]
      simp only [Option.bind_some, Bool.false_eq_true, if_false]
      rw [f_Hi]
      simp only [Option.bind_some]
      rw [pair_f k (by omega) x0 hx0 hx h true _ c d t2 hc hd, decide_eq_false (by rw [L, L]; exact fun h => h.elim y3 y4)]
      simp only [Option.bind_some, Bool.false_eq_true, if_false]
      rw [if_neg hx]
      rfl
end SpanEndsParts
open SpanEndsParts

theorem first_true : posternlaw15_first.f 300 = some true := by decide +kernel

theorem SpanEnds (a0 : Int) (a1 : Bool) (a2 a3 a4 a5 : Int) (_ : (Lit.int .i64 a0).wf = true) (w2 : (Lit.int .u64 a2).wf = true) (w3 : (Lit.int .u64 a3).wf = true) (w4 : (Lit.int .u64 a4).wf = true) (w5 : (Lit.int .u64 a5).wf = true) :
    ∃ k, posternlaw15_SpanEnds.f k a0 a1 a2 a3 a4 a5 = some true := by
  obtain ⟨a, rfl, ha⟩ := nat_of w2
  obtain ⟨b, rfl, hb⟩ := nat_of w3
  obtain ⟨c, rfl, hc⟩ := nat_of w4
  obtain ⟨d, rfl, hd⟩ := nat_of w5
  refine ⟨300, ?_⟩
  have hz : 0 ≤ IntKind.u64.wrap a0 := by rw [IntKind.wrap_u64]; omega
  obtain ⟨i, hi, hi5⟩ : ∃ i : Nat, wrap64 (Int.tmod (IntKind.u64.wrap a0) 5) = (i : Int) ∧ i < 5 := by
    rw [Int.tmod_eq_emod_of_nonneg hz]
    generalize IntKind.u64.wrap a0 = z at *
    refine ⟨(z % 5).toNat, ?_, by omega⟩
    rw [show wrap64 (z % 5) = z % 5 by unfold wrap64; omega]; omega
  unfold posternlaw15_SpanEnds.f
  rw [first_true]
  simp only [Option.bind_some, if_true]
  rw [hi]
  have key : ∀ (x0 : Int), x0 ∈ kinds → x0 ≠ 80 → x0 ≠ 16 → (if x0 = 16 then posternlaw15_SpanEnds.j0 300 true x0 (a : Int) (b : Int) (c : Int) (d : Int) else posternlaw15_SpanEnds.j0 300 a1 x0 (a : Int) (b : Int) (c : Int) (d : Int)) = some true := fun x0 h1 h2 h3 => by
    rw [if_neg h3]; exact ends 300 (by omega) x0 h1 h2 a1 (fun h => absurd h h3) a b c d ha hb hc hd
  rcases (show i = 0 ∨ i = 1 ∨ i = 2 ∨ i = 3 ∨ i = 4 by omega) with rfl | rfl | rfl | rfl | rfl
  · exact key 32 (by decide) (by decide) (by decide)
  · exact key 48 (by decide) (by decide) (by decide)
  · exact key 160 (by decide) (by decide) (by decide)
  · exact key 176 (by decide) (by decide) (by decide)
  · exact ends 300 (by omega) 16 (by decide) (by decide) true (fun _ => rfl) a b c d ha hb hc hd
end Go.Proofs.Ytladlljnpmpdpaa.Pure
