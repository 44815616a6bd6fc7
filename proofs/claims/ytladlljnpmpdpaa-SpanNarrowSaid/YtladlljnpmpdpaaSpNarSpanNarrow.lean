/- Plain: what span.Narrow makes of two spans: no pair is lost for which the condition is as it was said to be; the answer lies within; an order leaves no end without a partner. -/
import Derived.Test.YtladlljnpmpdpaaPSpanNarrowx8
import Derived.Test.YtladlljnpmpdpaaNum
namespace Go.Proofs.Ytladlljnpmpdpaa.SpNarSpanNarrow
open Go.RowKit Go.Proofs.Ytladlljnpmpdpaa.PSpanNarrow Go.Proofs.YtladlljnpmpdpaaW.PrintWords Go.Proofs.YtladlljnpmpdpaaW.PrintLast Go.Proofs.YtladlljnpmpdpaaW.PrintMore
open Go.Proofs.Ytladlljnpmpdpaa.Num
set_option linter.unusedVariables false
set_option linter.unusedSimpArgs false

/-- An order or sameness of whole numbers. -/
def ou (k x y : Int) : Bool :=
  if k = 16 then x == y else if k = 80 then x != y else if k = 32 then decide (x > y) else if k = 48 then decide (x ≥ y) else if k = 160 then decide (x < y) else decide (x ≤ y)
def kinds : List Int := [16, 80, 32, 48, 160, 176]
/-- What is asked of an answer: of pairs for which T holds, and of its place. -/
def Fine (T : Int → Int → Prop) (p q r s a1 a2 b1 b2 : Int) (ok : Bool) : Prop :=
  (∀ x y, p ≤ x → x ≤ q → r ≤ y → y ≤ s → T x y → ok = true ∧ a1 ≤ x ∧ x ≤ a2 ∧ b1 ≤ y ∧ y ≤ b2) ∧ (ok = true → a1 ≤ a2 ∧ b1 ≤ b2 ∧ p ≤ a1 ∧ a2 ≤ q ∧ r ≤ b1 ∧ b2 ≤ s)
/-- Every end has a partner among the other's ends; none: there is no pair of ends. -/
def Tight (T : Int → Int → Prop) (p q r s a1 a2 b1 b2 : Int) (ok : Bool) : Prop :=
  (ok = true → (T a1 r ∨ T a1 s) ∧ (T a2 r ∨ T a2 s) ∧ (T p b1 ∨ T q b1) ∧ (T p b2 ∨ T q b2)) ∧ (ok = false → ¬ T p r ∧ ¬ T p s ∧ ¬ T q r ∧ ¬ T q s)

section
variable {p q r s : Int} (hp : 0 ≤ p) (hpq : p ≤ q) (hq : q ≤ 18446744073709551615) (hr : 0 ≤ r) (hrs : r ≤ s) (hs : s ≤ 18446744073709551615)
include hp hpq hq hr hrs hs

theorem less_same : ∃ a1 a2 b1 b2 ok, span_less.f p q r s true = some (a1, a2, b1, b2, ok) ∧ Fine (fun x y => x ≤ y) p q r s a1 a2 b1 b2 ok ∧ Tight (fun x y => x ≤ y) p q r s a1 a2 b1 b2 ok := by
  unfold span_less.f
  rw [if_pos rfl, if_neg (by omega), if_neg (by omega), IntKind.wrap_u64, IntKind.wrap_u64, show s % 18446744073709551616 = s by omega, show p % 18446744073709551616 = p by omega]
  by_cases h : p ≤ mn q s
  · rw [if_pos h]
    refine ⟨_, _, _, _, _, rfl, ⟨fun x y h1 h2 h3 h4 h5 => ?_, fun hok => ?_⟩, fun hok => ?_, fun hok => ?_⟩ <;> unfold mn mx at * <;> simp only [decide_eq_true_eq, decide_eq_false_iff_not] at * <;> omega
  · rw [if_neg h]
    refine ⟨_, _, _, _, _, rfl, ⟨fun x y h1 h2 h3 h4 h5 => ?_, fun hok => ?_⟩, fun hok => ?_, fun hok => ?_⟩ <;> unfold mn at * <;> first | (exfalso; omega) | (exact absurd hok (by decide)) | (dsimp only; omega)
theorem less_strict : ∃ a1 a2 b1 b2 ok, span_less.f p q r s false = some (a1, a2, b1, b2, ok) ∧ Fine (fun x y => x < y) p q r s a1 a2 b1 b2 ok ∧ Tight (fun x y => x < y) p q r s a1 a2 b1 b2 ok := by
  unfold span_less.f
  rw [if_neg (by decide)]
  by_cases h1 : s < 1
  · rw [if_pos h1]
    refine ⟨_, _, _, _, _, rfl, ⟨fun x y h1 h2 h3 h4 h5 => ?_, fun hok => ?_⟩, fun hok => ?_, fun hok => ?_⟩ <;> first | (exfalso; omega) | (exact absurd hok (by decide)) | (dsimp only; omega)
  · rw [if_neg h1]
    by_cases h2 : p > 18446744073709551614
    · rw [if_pos h2]
      refine ⟨_, _, _, _, _, rfl, ⟨fun x y h1 h2 h3 h4 h5 => ?_, fun hok => ?_⟩, fun hok => ?_, fun hok => ?_⟩ <;> first | (exfalso; omega) | (exact absurd hok (by decide)) | (dsimp only; omega)
    · rw [if_neg h2, IntKind.wrap_u64, IntKind.wrap_u64, show (s - 1) % 18446744073709551616 = s - 1 by omega, show (p + 1) % 18446744073709551616 = p + 1 by omega]
      by_cases h : p ≤ mn q (s - 1)
      · rw [if_pos h]
        refine ⟨_, _, _, _, _, rfl, ⟨fun x y h1 h2 h3 h4 h5 => ?_, fun hok => ?_⟩, fun hok => ?_, fun hok => ?_⟩ <;> unfold mn mx at * <;> simp only [decide_eq_true_eq, decide_eq_false_iff_not] at * <;> omega
      · rw [if_neg h]
        refine ⟨_, _, _, _, _, rfl, ⟨fun x y h1 h2 h3 h4 h5 => ?_, fun hok => ?_⟩, fun hok => ?_, fun hok => ?_⟩ <;> unfold mn at * <;> first | (exfalso; omega) | (exact absurd hok (by decide)) | (dsimp only; omega)

theorem trim (k : Nat) : ∃ a1 a2, span_unlike_1.f (k + 1) p q r s = some (a1, a2) ∧ (∀ x y, p ≤ x → x ≤ q → r ≤ y → y ≤ s → x ≠ y → a1 ≤ x ∧ x ≤ a2) ∧ p ≤ a1 ∧ a1 ≤ a2 ∧ a2 ≤ q := by
  have _ := hrs
  unfold span_unlike_1.f
  simp only [span_one.f, Option.bind_some]
  by_cases h1 : r = s
  · rw [if_pos (beq_iff_eq.mpr h1)]
    by_cases h2 : p = q
    · rw [beq_iff_eq.mpr h2, span_unlike_1.j0, if_pos rfl]
      exact ⟨_, _, rfl, fun x y _ _ _ _ _ => by omega, by omega, by omega, by omega⟩
    · rw [beq_eq_false_iff_ne.mpr h2, span_unlike_1.j0, if_neg (by decide)]
      by_cases h3 : p = r
      · rw [if_pos h3, IntKind.wrap_u64, show (p + 1) % 18446744073709551616 = p + 1 by omega]
        exact ⟨_, _, rfl, fun x y _ _ _ _ _ => by omega, by omega, by omega, by omega⟩
      · rw [if_neg h3]
        by_cases h4 : q = r
        · rw [if_pos h4, IntKind.wrap_u64, show (q - 1) % 18446744073709551616 = q - 1 by omega]
          exact ⟨_, _, rfl, fun x y _ _ _ _ _ => by omega, by omega, by omega, by omega⟩
        · rw [if_neg h4]
          exact ⟨_, _, rfl, fun x y _ _ _ _ _ => by omega, by omega, by omega, by omega⟩
  · rw [if_neg (by rw [beq_iff_eq]; exact h1), span_unlike_1.j0, if_pos rfl]
    exact ⟨_, _, rfl, fun x y _ _ _ _ _ => by omega, by omega, by omega, by omega⟩
end

section
variable {p q r s : Int} (hp : 0 ≤ p) (hpq : p ≤ q) (hq : q ≤ 18446744073709551615) (hr : 0 ≤ r) (hrs : r ≤ s) (hs : s ≤ 18446744073709551615)
include hp hpq hq hr hrs hs

theorem unlike (k : Nat) : ∃ a1 a2 b1 b2 ok, span_unlike.f (k + 2) p q r s = some (a1, a2, b1, b2, ok) ∧ Fine (fun x y => x ≠ y) p q r s a1 a2 b1 b2 ok := by
  unfold span_unlike.f
  simp only [span_one.f, Option.bind_some]
  obtain ⟨a1, a2, e1, e2, e3, e4, e5⟩ := trim hp hpq hq hr hrs hs k
  obtain ⟨b1, b2, f1, f2, f3, f4, f5⟩ := trim hr hrs hs hp hpq hq k
  have jf : span_unlike.j0 (k + 2) false p q r s = some (a1, a2, b1, b2, true) := by
    rw [span_unlike.j0, if_neg (by decide), e1, f1]; rfl
  have fine : Fine (fun x y => x ≠ y) p q r s a1 a2 b1 b2 true := by
    refine ⟨fun x y h1 h2 h3 h4 h5 => ?_, fun _ => ⟨by omega, by omega, by omega, by omega, by omega, by omega⟩⟩
    have := e2 x y h1 h2 h3 h4 h5
    have := f2 y x h3 h4 h1 h2 (Ne.symm h5)
    exact ⟨rfl, by omega, by omega, by omega, by omega⟩
  by_cases h1 : p = q
  · rw [if_pos (beq_iff_eq.mpr h1)]
    by_cases h2 : r = s
    · rw [beq_iff_eq.mpr h2, span_unlike.j0, if_pos rfl]
      refine ⟨_, _, _, _, _, rfl, fun x y g1 g2 g3 g4 g5 => ⟨?_, by omega, by omega, by omega, by omega⟩, fun _ => ⟨by omega, by omega, by omega, by omega, by omega, by omega⟩⟩
      rw [beq_eq_false_iff_ne.mpr (show p ≠ r by omega)]; rfl
    · rw [beq_eq_false_iff_ne.mpr h2]; exact ⟨_, _, _, _, _, jf, fine⟩
  · rw [if_neg (by rw [beq_iff_eq]; exact h1)]; exact ⟨_, _, _, _, _, jf, fine⟩
end

theorem Fine.mono {T T' : Int → Int → Prop} {p q r s a1 a2 b1 b2 : Int} {ok : Bool} (h : Fine T p q r s a1 a2 b1 b2 ok) (ht : ∀ x y, T' x y → T x y) : Fine T' p q r s a1 a2 b1 b2 ok :=
  ⟨fun x y h1 h2 h3 h4 h5 => h.1 x y h1 h2 h3 h4 (ht x y h5), h.2⟩
theorem Fine.swap {T : Int → Int → Prop} {p q r s a1 a2 b1 b2 : Int} {ok : Bool} (h : Fine T r s p q b1 b2 a1 a2 ok) : Fine (fun x y => T y x) p q r s a1 a2 b1 b2 ok :=
  ⟨fun x y h1 h2 h3 h4 h5 => have := h.1 y x h3 h4 h1 h2 h5; ⟨this.1, this.2.2.2.1, this.2.2.2.2, this.2.1, this.2.2.1⟩, fun hok => have := h.2 hok; ⟨this.2.1, this.1, this.2.2.2.2.1, this.2.2.2.2.2, this.2.2.1, this.2.2.2.1⟩⟩
theorem Tight.swap {T : Int → Int → Prop} {p q r s a1 a2 b1 b2 : Int} {ok : Bool} (h : Tight T r s p q b1 b2 a1 a2 ok) : Tight (fun x y => T y x) p q r s a1 a2 b1 b2 ok :=
  ⟨fun hok => have := h.1 hok; ⟨this.2.2.1, this.2.2.2, this.1, this.2.1⟩, fun hok => have := h.2 hok; ⟨this.1, this.2.2.1, this.2.1, this.2.2.2⟩⟩

section
variable {p q r s : Int} (hp : 0 ≤ p) (hpq : p ≤ q) (hq : q ≤ 18446744073709551615) (hr : 0 ≤ r) (hrs : r ≤ s) (hs : s ≤ 18446744073709551615)
include hp hpq hq hr hrs hs

/-- A condition that holds. -/
theorem order_j0 (k : Nat) (x0 : Int) (hx0 : x0 ∈ kinds) : ∃ a1 a2 b1 b2 ok, span_order.j0 (k + 3) x0 p q r s = some (a1, a2, b1, b2, ok) ∧ Fine (fun x y => ou x0 x y = true) p q r s a1 a2 b1 b2 ok ∧
    (x0 = 16 → a1 = b1 ∧ a2 = b2 ∧ (ok = false → s < p ∨ q < r)) ∧ (x0 ≠ 16 → x0 ≠ 80 → Tight (fun x y => ou x0 x y = true) p q r s a1 a2 b1 b2 ok) := by
  simp only [kinds, List.mem_cons, List.not_mem_nil, or_false] at hx0
  rcases hx0 with rfl | rfl | rfl | rfl | rfl | rfl
  · refine ⟨mx p r, mn q s, mx p r, mn q s, decide (mx p r ≤ mn q s), ?_, ⟨fun x y h1 h2 h3 h4 h5 => ?_, fun hok => ?_⟩, fun _ => ⟨rfl, rfl, fun hok => ?_⟩, fun h => absurd rfl h⟩
    · rw [span_order.j0, if_pos rfl, span_same.f]; rfl
    · have : x = y := by simpa [ou] using h5
      refine ⟨decide_eq_true ?_, ?_, ?_, ?_, ?_⟩ <;> (try unfold mx) <;> (try unfold mn) <;> omega
    · have := of_decide_eq_true hok
      unfold mx mn at *; omega
    · have := of_decide_eq_false hok
      unfold mx mn at *; omega
  · obtain ⟨a1, a2, b1, b2, ok, e, h⟩ := unlike hp hpq hq hr hrs hs k
    refine ⟨a1, a2, b1, b2, ok, ?_, h.mono (fun x y h => by simpa [ou] using h), fun h => absurd h (by decide), fun _ h => absurd rfl h⟩
    rw [span_order.j0, if_neg (by decide), if_pos rfl, e]; rfl
  · obtain ⟨a1, a2, b1, b2, ok, e, h, t⟩ := less_strict hr hrs hs hp hpq hq
    have ef : (fun x y : Int => ou 32 x y = true) = fun x y => y < x := by funext x y; simp [ou]
    rw [ef]
    refine ⟨b1, b2, a1, a2, ok, ?_, Fine.swap (T := fun x y => x < y) h, fun h => absurd h (by decide), fun _ _ => Tight.swap (T := fun x y => x < y) t⟩
    rw [span_order.j0, if_neg (by decide), if_neg (by decide), if_neg (by decide), span_order.j1]
    simp only [Int.reduceEq, Int.reduceBEq, Bool.false_eq_true, if_false, if_true]
    rw [e]; rfl
  · obtain ⟨a1, a2, b1, b2, ok, e, h, t⟩ := less_same hr hrs hs hp hpq hq
    have ef : (fun x y : Int => ou 48 x y = true) = fun x y => y ≤ x := by funext x y; simp [ou]
    rw [ef]
    refine ⟨b1, b2, a1, a2, ok, ?_, Fine.swap (T := fun x y => x ≤ y) h, fun h => absurd h (by decide), fun _ _ => Tight.swap (T := fun x y => x ≤ y) t⟩
    rw [span_order.j0, if_neg (by decide), if_neg (by decide), if_neg (by decide), span_order.j1]
    simp only [Int.reduceEq, Int.reduceBEq, Bool.false_eq_true, if_false, if_true]
    rw [e]; rfl
  · obtain ⟨a1, a2, b1, b2, ok, e, h, t⟩ := less_strict hp hpq hq hr hrs hs
    have ef : (fun x y : Int => ou 160 x y = true) = fun x y => x < y := by funext x y; simp [ou]
    rw [ef]
    refine ⟨a1, a2, b1, b2, ok, ?_, h, fun h => absurd h (by decide), fun _ _ => t⟩
    rw [span_order.j0, if_neg (by decide), if_neg (by decide), if_pos rfl, span_order.j1]
    simp only [Int.reduceEq, Int.reduceBEq, if_true]
    rw [e]; rfl
  · obtain ⟨a1, a2, b1, b2, ok, e, h, t⟩ := less_same hp hpq hq hr hrs hs
    have ef : (fun x y : Int => ou 176 x y = true) = fun x y => x ≤ y := by funext x y; simp [ou]
    rw [ef]
    refine ⟨a1, a2, b1, b2, ok, ?_, h, fun h => absurd h (by decide), fun _ _ => t⟩
    rw [span_order.j0, if_neg (by decide), if_neg (by decide), if_neg (by decide), span_order.j1]
    simp only [Int.reduceEq, Int.reduceBEq, if_true]
    rw [e]; rfl

/-- The opposite condition. -/
def opp (k : Int) : Int := if k = 16 then 80 else if k = 80 then 16 else if k = 32 then 176 else if k = 176 then 32 else if k = 48 then 160 else 48
omit hp hpq hq hr hrs hs in
theorem ou_opp {k : Int} (hk : k ∈ kinds) (x y : Int) : (ou (opp k) x y = true) ↔ ou k x y = false := by
  simp only [kinds, List.mem_cons, List.not_mem_nil, or_false] at hk
  rcases hk with rfl | rfl | rfl | rfl | rfl | rfl <;> simp [ou, opp]
omit hp hpq hq hr hrs hs in
theorem opp_kinds {k : Int} (hk : k ∈ kinds) : opp k ∈ kinds ∧ (opp k = 16 ↔ k = 80) ∧ (opp k = 80 ↔ k = 16) := by
  simp only [kinds, List.mem_cons, List.not_mem_nil, or_false] at hk
  rcases hk with rfl | rfl | rfl | rfl | rfl | rfl <;> decide

/-- A condition that holds, or doesn't. -/
theorem order_f (k : Nat) (x0 : Int) (hx0 : x0 ∈ kinds) (h : Bool) : ∃ a1 a2 b1 b2 ok, span_order.f (k + 3) x0 h p q r s = some (a1, a2, b1, b2, ok) ∧ Fine (fun x y => ou x0 x y = h) p q r s a1 a2 b1 b2 ok ∧
    (x0 = 16 → h = true → a1 = b1 ∧ a2 = b2 ∧ (ok = false → s < p ∨ q < r)) ∧ (x0 ≠ 16 → x0 ≠ 80 → Tight (fun x y => ou x0 x y = h) p q r s a1 a2 b1 b2 ok) := by
  unfold span_order.f
  cases h with
  | true =>
    rw [if_pos rfl]
    obtain ⟨a1, a2, b1, b2, ok, e, f, g1, g2⟩ := order_j0 hp hpq hq hr hrs hs k x0 hx0
    exact ⟨a1, a2, b1, b2, ok, e, f, fun h _ => g1 h, g2⟩
  | false =>
    rw [if_neg (by decide)]
    obtain ⟨o1, o2, o3⟩ := opp_kinds hx0
    obtain ⟨a1, a2, b1, b2, ok, e, f, g1, g2⟩ := order_j0 hp hpq hq hr hrs hs k (opp x0) o1
    have ef : (fun x y : Int => ou (opp x0) x y = true) = fun x y => ou x0 x y = false := by funext x y; exact propext (ou_opp hx0 x y)
    rw [ef] at f g2
    refine ⟨a1, a2, b1, b2, ok, ?_, f, (fun _ h => absurd h (by decide)), fun h1 h2 => g2 (fun h => h2 (o2.1 h)) (fun h => h1 (o3.1 h))⟩
    rw [← e]
    simp only [kinds, List.mem_cons, List.not_mem_nil, or_false] at hx0
    rcases hx0 with rfl | rfl | rfl | rfl | rfl | rfl <;> simp [opp]
end
end Go.Proofs.Ytladlljnpmpdpaa.SpNarSpanNarrow
