/- mem, plain: two regions side by side: what is answered at their border. -/
import Derived.Test.YtpjgaacdohiomaaMemK
namespace Go.Proofs.Ytpjgaacdohiomaa.MemJ
open Go.RowKit Go.Proofs.Ytpjgaacdohiomaa.PMemCopies Go.Proofs.Ytpjgaacdohiomaa.Mem1 Go.Proofs.Ytpjgaacdohiomaa.MemB Go.Proofs.Ytpjgaacdohiomaa.Mem6 Go.Proofs.Ytpjgaacdohiomaa.Mem8 Go.Proofs.Ytpjgaacdohiomaa.Mem9 Go.Proofs.Ytpjgaacdohiomaa.MemN Go.Proofs.Ytpjgaacdohiomaa.MemC Go.Proofs.Ytpjgaacdohiomaa.MemD Go.Proofs.Ytpjgaacdohiomaa.MemQ Go.Proofs.Ytpjgaacdohiomaa.MemK
set_option linter.unusedVariables false
set_option linter.unusedSimpArgs false
/-- The two regions' places, by any bytes and marks. -/
structure Two (b : Int) (x y : Nat) (p q : Int) (r s : Rg) : Prop where
  id0 : r.id = 0
  id1 : s.id = 1
  base0 : r.base = b
  base1 : s.base = b + x
  len0 : r.bytes.length = x
  len1 : s.bytes.length = y
  perm0 : r.perm = p
  perm1 : s.perm = q
section
variable {b p q : Int} {x y : Nat} {r s : Rg}
theorem at_first (h : Two b x y p q r s) (k : Nat) (n : Int) (hk : k < x) : atQ [r, s] (b + k) n = if n ≤ (x : Int) - k then some (0, r, (k : Int)) else none := by
  have h1 : inQ (b + k) r = true := by
    unfold inQ
    rw [h.base0, h.len0]
    simp only [Bool.and_eq_true, decide_eq_true_eq]
    omega
  have h2 : [r, s].findIdx (inQ (b + k)) = 0 := by simp [List.findIdx_cons, h1]
  unfold atQ
  rw [h2]
  simp only [List.getElem?_cons_zero]
  have h3 : (b + (k : Int)) - r.base = k := by rw [h.base0]; omega
  rw [h3, h.len0]
theorem at_second (h : Two b x y p q r s) (n : Int) (hy : 0 < y) : atQ [r, s] (b + x) n = if n ≤ (y : Int) then some (1, s, 0) else none := by
  have h0 : inQ (b + x) r = false := by
    unfold inQ
    rw [h.base0, h.len0]
    simp only [Bool.and_eq_false_iff, decide_eq_false_iff_not]
    omega
  have h1 : inQ (b + x) s = true := by
    unfold inQ
    rw [h.base1, h.len1]
    simp only [Bool.and_eq_true, decide_eq_true_eq]
    omega
  have h2 : [r, s].findIdx (inQ (b + x)) = 1 := by simp [List.findIdx_cons, h0, h1]
  unfold atQ
  rw [h2]
  have h4 : [r, s][1]? = some s := rfl
  rw [h4]
  simp only
  have h3 : (b + (x : Int)) - s.base = 0 := by rw [h.base1]; omega
  rw [h3, h.len1, Int.sub_zero]
theorem read_border (h : Two b x y p q r s) (hx : 0 < x) : readQ [r, s] (b + x - 1) 2 = (10, []) := by
  have := at_first h (x - 1) 2 (by omega)
  rw [show b + ((x - 1 : Nat) : Int) = b + x - 1 by omega, if_neg (by omega)] at this
  unfold readQ
  rw [if_neg (by decide), if_neg (by decide), this]
theorem write_border (h : Two b x y p q r s) (hx : 0 < x) : writeQ [r, s] (b + x - 1) [1, 2] = (10, [r, s]) := by
  have := at_first h (x - 1) (2 : Nat) (by omega)
  rw [show b + ((x - 1 : Nat) : Int) = b + x - 1 by omega, if_neg (by omega)] at this
  unfold writeQ
  rw [if_neg (by decide)]
  rw [show (([1, 2] : List Int).length : Int) = ((2 : Nat) : Int) from rfl, this]
theorem read_first (h : Two b x y p q r s) (hx : 0 < x) : ((readQ [r, s] b 1).1 = 10 ↔ p % 2 = 0) := by
  have := at_first h 0 1 hx
  rw [show b + ((0 : Nat) : Int) = b by omega, if_pos (by omega)] at this
  unfold readQ
  rw [if_neg (by decide), if_neg (by decide), this]
  simp only
  rw [h.perm0]
  by_cases hp : p % 2 = 0
  · rw [if_pos hp]; simp [hp]
  · rw [if_neg hp]
    split <;> simp [hp]
theorem read_second (h : Two b x y p q r s) (hy : 0 < y) : ((readQ [r, s] (b + x) 1).1 = 10 ↔ q % 2 = 0) := by
  have := at_second h 1 hy
  rw [if_pos (by omega)] at this
  unfold readQ
  rw [if_neg (by decide), if_neg (by decide), this]
  simp only
  rw [h.perm1]
  by_cases hp : q % 2 = 0
  · rw [if_pos hp]; simp [hp]
  · rw [if_neg hp]
    split <;> simp [hp]
theorem write_first (h : Two b x y p q r s) (hx : 0 < x) : ((writeQ [r, s] b [7]).1 = 0 ↔ p / 2 % 2 ≠ 0) ∧ ∃ r', (writeQ [r, s] b [7]).2 = [r', s] ∧ Two b x y p q r' s := by
  have := at_first h 0 (1 : Nat) hx
  rw [show b + ((0 : Nat) : Int) = b by omega, if_pos (by omega)] at this
  have e : writeQ [r, s] b [7] = if r.perm / 2 % 2 = 0 then (10, [r, s]) else (0, [r, s].set 0 (layR r 0 [7])) := by
    unfold writeQ
    rw [if_neg (by decide)]
    rw [show (([7] : List Int).length : Int) = ((1 : Nat) : Int) from rfl, this]
    rfl
  rw [e, h.perm0]
  by_cases hp : p / 2 % 2 = 0
  · rw [if_pos hp]
    exact ⟨by simp [hp], r, rfl, h⟩
  · rw [if_neg hp]
    refine ⟨by simp [hp], layR r 0 [7], rfl, ⟨h.id0, h.id1, h.base0, h.base1, ?_, h.len1, h.perm0, h.perm1⟩⟩
    have := over_len (l := r.bytes) (xs := [7]) (i := 0) (by rw [h.len0]; simp; omega)
    rw [← h.len0]
    exact this
theorem add_busy (h : Two b x y p q r s) (hx : 0 < x) (hb : 0 ≤ b) (hm : b + x < 18446744073709551616) (nx : Int) : addQ [r, s] nx (b + x - 1) 1 1 = (0, 12, [r, s], nx) := by
  unfold addQ
  rw [if_neg (by unfold argOk; omega), if_pos ?_]
  have : busyQ (b + x - 1) (b + x - 1 + (1 - 1)) r = true := by
    unfold busyQ
    rw [h.base0, h.len0]
    simp only [Bool.and_eq_true, decide_eq_true_eq]
    omega
  rw [List.any_cons, this, Bool.true_or]
theorem kill_first (h : Two b x y p q r s) : killQ [r, s] 0 = (0, [s]) ∧ killQ [s] 0 = (14, [s]) ∧ (idQ [s] 1).isSome = true := by
  have h0 : isIdQ 0 r = true := by simp [isIdQ, h.id0]
  have h1 : isIdQ 0 s = false := by simp [isIdQ, h.id1]
  have h2 : isIdQ 1 s = true := by simp [isIdQ, h.id1]
  refine ⟨?_, ?_, ?_⟩
  · simp [killQ, idQ, List.find?, h0, List.findIdx_cons]
  · simp [killQ, idQ, List.find?, h1]
  · simp [idQ, List.find?, h2]
end
theorem two_new {b p q : Int} {x y : Nat} : Two b x y p q (newR 0 b p x) (newR 1 (b + x) q y) := ⟨rfl, rfl, rfl, rfl, by simp [newR], by simp [newR], rfl, rfl⟩
theorem add_one {b p : Int} {x : Nat} (hx : 0 < x ∧ x ≤ 16) (hb : 0 ≤ b ∧ b < 281474976710656) (hp : 0 ≤ p ∧ p ≤ 7) : addQ [] 0 b x p = (0, 0, [newR 0 b p x], 1) := by
  unfold addQ
  rw [if_neg (by unfold argOk; omega), if_neg (by simp), if_neg (by simp), Int.toNat_natCast]
  rfl
theorem add_two {b p q : Int} {x y : Nat} (hx : 0 < x ∧ x ≤ 16) (hy : 0 < y ∧ y ≤ 16) (hb : 0 ≤ b ∧ b < 281474976710656) (hq : 0 ≤ q ∧ q ≤ 7) : addQ [newR 0 b p x] 1 (b + x) y q = (1, 0, [newR 0 b p x, newR 1 (b + x) q y], 2) := by
  unfold addQ
  have hf : busyQ (b + x) (b + x + ((y : Int) - 1)) (newR 0 b p x) = false := by
    unfold busyQ
    simp only [newR, List.length_replicate, Bool.and_eq_false_iff, decide_eq_false_iff_not]
    omega
  rw [if_neg (by unfold argOk; omega), if_neg (by simp [hf]), if_neg (by simp), Int.toNat_natCast]
  rfl
end Go.Proofs.Ytpjgaacdohiomaa.MemJ
