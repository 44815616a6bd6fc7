/- What tnum.Do makes of sums, differences, bitwise operations, shifts by constants loses nothing: each unknown bit of the answer is zero for some numbers that the two tnums hold, and one for some. -/
import Derived.Test.YtladlljnpmpdpaaTnDoTnumBest
namespace Go.Proofs.Ytladlljnpmpdpaa.TnBestTnumBest
open Go.RowKit Go.Proofs.Ytladlljnpmpdpaa.PTnumBest Go.Proofs.YtladlljnpmpdpaaW.PrintWords Go.Proofs.YtladlljnpmpdpaaW.PrintLast Go.Proofs.YtladlljnpmpdpaaW.PrintMore
open Go.Proofs.Ytladlljnpmpdpaa.Num Go.Proofs.Ytladlljnpmpdpaa.DoTnumBest Go.Proofs.Ytladlljnpmpdpaa.Bv Go.Proofs.Ytladlljnpmpdpaa.Tn Go.Proofs.Ytladlljnpmpdpaa.TnDoTnumBest

/-- Bit i of f's answers is one for some members, zero for some. -/
def Both (av am bv bm : W) (f : W → W → W) (i : Nat) : Prop :=
  (∃ x y, Mem av am x ∧ Mem bv bm y ∧ (f x y).getLsbD i = true) ∧ (∃ x y, Mem av am x ∧ Mem bv bm y ∧ (f x y).getLsbD i = false)
theorem both_of {av am bv bm : W} {f : W → W → W} {i : Nat} {x y x' y' : W} (h1 : Mem av am x) (h2 : Mem bv bm y) (h3 : Mem av am x') (h4 : Mem bv bm y') (h : (f x y).getLsbD i = !(f x' y').getLsbD i) : Both av am bv bm f i := by
  cases e : (f x' y').getLsbD i with
  | true => rw [e] at h; exact ⟨⟨x', y', h3, h4, e⟩, ⟨x, y, h1, h2, h⟩⟩
  | false => rw [e] at h; exact ⟨⟨x, y, h1, h2, h⟩, ⟨x', y', h3, h4, e⟩⟩

theorem mem_all (v m : W) : Mem v m (v ||| m) := fun i hm => by rw [BitVec.getLsbD_or, hm]; simp
/-- v with bit j of the mask set. -/
theorem mem_one (v m : W) (j : Nat) (hj : m.getLsbD j = true) : Mem v m (v ||| (1#64 <<< j)) := fun i hm => by
  rw [BitVec.getLsbD_or, BitVec.getLsbD_shiftLeft, BitVec.getLsbD_one]
  have : i ≠ j := by intro e; subst e; rw [hj] at hm; cases hm
  by_cases h : i < j
  · simp [h]
  · have : i - j ≠ 0 := by omega
    simp [this]
theorem one_bit (v : W) (j i : Nat) (hi : i < 64) : (v ||| (1#64 <<< j)).getLsbD i = (v.getLsbD i || decide (i = j)) := by
  rw [BitVec.getLsbD_or, BitVec.getLsbD_shiftLeft, BitVec.getLsbD_one]
  by_cases h : i < j
  · have : i ≠ j := by omega
    simp [h, this]
  · by_cases e : i = j
    · subst e; simp [hi]
    · have : i - j ≠ 0 := by omega
      simp [this, e]
/-- The carry into bit i hangs on the lower bits alone. -/
theorem carry_low {x x' y y' : W} {c : Bool} {i : Nat} (hx : ∀ j, j < i → x.getLsbD j = x'.getLsbD j) (hy : ∀ j, j < i → y.getLsbD j = y'.getLsbD j) : BitVec.carry i x y c = BitVec.carry i x' y' c := by
  have low : ∀ {z z' : W}, (∀ j, j < i → z.getLsbD j = z'.getLsbD j) → z.toNat % 2 ^ i = z'.toNat % 2 ^ i := fun {z z'} h => by
    apply Nat.eq_of_testBit_eq
    intro j
    rw [Nat.testBit_mod_two_pow, Nat.testBit_mod_two_pow]
    by_cases hj : j < i
    · have := h j hj
      rw [BitVec.getLsbD, BitVec.getLsbD] at this
      rw [this]
    · simp [hj]
  unfold BitVec.carry
  rw [low hx, low hy]

theorem add_both {av am bv bm : W} (ta : Tidy av am) (tb : Tidy bv bm) {i : Nat} (hi : i < 64) (h : (addM av am bv bm).getLsbD i = true) : Both av am bv bm (· + ·) i := by
  rw [addM_bit ta tb hi] at h
  cases ha : am.getLsbD i with
  | true =>
    refine both_of (mem_self av am) (mem_self bv bm) (mem_one av am i ha) (mem_self bv bm) ?_
    show (av + bv).getLsbD i = !((av ||| (1#64 <<< i)) + bv).getLsbD i
    rw [bit_add hi, bit_add hi, carry_low (x := av ||| (1#64 <<< i)) (x' := av) (y' := bv) (fun j hj => by rw [one_bit _ _ _ (by omega)]; simp [Nat.ne_of_lt hj]) (fun _ _ => rfl), one_bit _ _ _ hi, ta i ha]
    simp
  | false =>
    cases hb : bm.getLsbD i with
    | true =>
      refine both_of (mem_self av am) (mem_self bv bm) (mem_self av am) (mem_one bv bm i hb) ?_
      show (av + bv).getLsbD i = !(av + (bv ||| (1#64 <<< i))).getLsbD i
      rw [bit_add hi, bit_add hi, carry_low (x' := av) (y := bv ||| (1#64 <<< i)) (y' := bv) (fun _ _ => rfl) (fun j hj => by rw [one_bit _ _ _ (by omega)]; simp [Nat.ne_of_lt hj]), one_bit _ _ _ hi, tb i hb]
      cases av.getLsbD i <;> simp
    | false =>
      rw [ha, hb] at h
      refine both_of (mem_self av am) (mem_self bv bm) (mem_all av am) (mem_all bv bm) ?_
      show (av + bv).getLsbD i = !((av ||| am) + (bv ||| bm)).getLsbD i
      rw [bit_add hi, bit_add hi, BitVec.getLsbD_or, BitVec.getLsbD_or, ha, hb]
      revert h
      cases av.getLsbD i <;> cases bv.getLsbD i <;> cases BitVec.carry i (av ||| am) (bv ||| bm) false <;> cases BitVec.carry i av bv false <;> simp
theorem sub_both {av am bv bm : W} (ta : Tidy av am) (tb : Tidy bv bm) {i : Nat} (hi : i < 64) (h : (subM av am bv bm).getLsbD i = true) : Both av am bv bm (· - ·) i := by
  rw [subM_bit ta tb hi] at h
  cases ha : am.getLsbD i with
  | true =>
    refine both_of (mem_self av am) (mem_self bv bm) (mem_one av am i ha) (mem_self bv bm) ?_
    show (av - bv).getLsbD i = !((av ||| (1#64 <<< i)) - bv).getLsbD i
    rw [bit_sub hi, bit_sub hi, carry_low (x := av ||| (1#64 <<< i)) (x' := av) (y' := ~~~bv) (fun j hj => by rw [one_bit _ _ _ (by omega)]; simp [Nat.ne_of_lt hj]) (fun _ _ => rfl), one_bit _ _ _ hi, ta i ha]
    simp
  | false =>
    cases hb : bm.getLsbD i with
    | true =>
      refine both_of (mem_self av am) (mem_self bv bm) (mem_self av am) (mem_one bv bm i hb) ?_
      show (av - bv).getLsbD i = !(av - (bv ||| (1#64 <<< i))).getLsbD i
      rw [bit_sub hi, bit_sub hi, carry_low (x' := av) (y := ~~~(bv ||| (1#64 <<< i))) (y' := ~~~bv) (fun _ _ => rfl) (fun j hj => by rw [not_bit (by omega), not_bit (by omega), one_bit _ _ _ (by omega)]; simp [Nat.ne_of_lt hj]), not_bit hi, not_bit hi, one_bit _ _ _ hi, tb i hb]
      cases av.getLsbD i <;> simp
    | false =>
      rw [ha, hb] at h
      refine both_of (mem_self av am) (mem_all bv bm) (mem_all av am) (mem_self bv bm) ?_
      show (av - (bv ||| bm)).getLsbD i = !((av ||| am) - bv).getLsbD i
      rw [bit_sub hi, bit_sub hi, not_bit hi, not_bit hi, BitVec.getLsbD_or, BitVec.getLsbD_or, ha, hb]
      revert h
      cases av.getLsbD i <;> cases bv.getLsbD i <;> cases BitVec.carry i (av ||| am) (~~~bv) true <;> cases BitVec.carry i av (~~~(bv ||| bm)) true <;> simp

/-- The kinds that lose nothing; and whatever is made of two constants. -/
def Bst (k : Int) (am bm : W) : Prop := k ∈ ([0, 16, 64, 80, 160, 128, 176] : List Int) ∨ (k ∈ ([96, 112] : List Int) ∧ bm = 0#64) ∨ (am = 0#64 ∧ bm = 0#64)

theorem do_best (k : Nat) (hk : 150 ≤ k) (x0 : Int) (w : Bool) (av am bv bm rv rm : W) (ta : Tidy av am) (tb : Tidy bv bm)
    (hb : x0 ∈ ([0, 16, 64, 80, 160, 128, 176] : List Int) ∨ (x0 ∈ ([96, 112] : List Int) ∧ bm = 0#64)) (h128 : x0 = 128 → bv = av ∧ bm = am)
    (he : tnum_do.f k x0 w (av.toNat : Int) (am.toNat : Int) (bv.toNat : Int) (bm.toNat : Int) = some ((rv.toNat : Int), (rm.toNat : Int))) (i : Nat) (hi : i < 64) (hm : rm.getLsbD i = true) :
    Both av am bv bm (fun x y => opb x0 (y.toNat % (if w then 64 else 32)) x y) i := by
  obtain ⟨k, rfl⟩ : ∃ q, k = q + 1 := ⟨k - 1, by omega⟩
  have hn : ∃ n : Nat, n ≤ 63 ∧ n = bv.toNat % (if w then 64 else 32) ∧ tnum_do.f (k + 1) x0 w (av.toNat : Int) (am.toNat : Int) (bv.toNat : Int) (bm.toNat : Int) = tnum_do.j0 (k + 1) x0 (n : Int) (av.toNat : Int) (am.toNat : Int) (bv.toNat : Int) (bm.toNat : Int) := by
    unfold tnum_do.f
    cases w with
    | true =>
      refine ⟨bv.toNat % 64, by omega, rfl, ?_⟩
      rw [if_pos rfl, and_63 bv.isLt, show wrap64 ((bv.toNat % 64 : Nat) : Int) = ((bv.toNat % 64 : Nat) : Int) by unfold wrap64; omega]
    | false =>
      refine ⟨bv.toNat % 32, by omega, rfl, ?_⟩
      rw [if_neg (by decide), and_31 bv.isLt, show wrap64 ((bv.toNat % 32 : Nat) : Int) = ((bv.toNat % 32 : Nat) : Int) by unfold wrap64; omega]
  obtain ⟨n, hn1, hn2, hn3⟩ := hn
  rw [hn3] at he
  have out : ∀ {p q : W}, (some ((p.toNat : Int), (q.toNat : Int)) : Option (Int × Int)) = some ((rv.toNat : Int), (rm.toNat : Int)) → q = rm := fun h => by
    simp only [Option.some.injEq, Prod.mk.injEq] at h
    exact (c_eq _ _).1 h.2
  simp only [List.mem_cons, List.not_mem_nil, or_false] at hb
  rcases hb with (rfl | rfl | rfl | rfl | rfl | rfl | rfl) | ⟨rfl | rfl, hb0⟩ <;> simp only [tnum_do.j0, Int.reduceEq, if_true, if_false, opb] at he ⊢
  · rw [f_add] at he
    have := out he
    subst this
    exact add_both ta tb hi hm
  · rw [f_sub] at he
    have := out he
    subst this
    exact sub_both ta tb hi hm
  · rw [c_or, c_or, c_andNot] at he
    have := out he
    subst this
    refine both_of (mem_self av am) (mem_self bv bm) (mem_all av am) (mem_all bv bm) ?_
    rw [BitVec.getLsbD_and, BitVec.getLsbD_or, not_bit hi, BitVec.getLsbD_or] at hm
    rw [BitVec.getLsbD_or, BitVec.getLsbD_or, BitVec.getLsbD_or, BitVec.getLsbD_or]
    revert hm
    cases av.getLsbD i <;> cases am.getLsbD i <;> cases bv.getLsbD i <;> cases bm.getLsbD i <;> simp
  · rw [c_and, c_or, c_or, c_and, c_andNot] at he
    have := out he
    subst this
    refine both_of (mem_self av am) (mem_self bv bm) (mem_all av am) (mem_all bv bm) ?_
    rw [BitVec.getLsbD_and, BitVec.getLsbD_and, BitVec.getLsbD_or, BitVec.getLsbD_or, not_bit hi, BitVec.getLsbD_and] at hm
    rw [BitVec.getLsbD_and, BitVec.getLsbD_and, BitVec.getLsbD_or, BitVec.getLsbD_or]
    revert hm
    cases av.getLsbD i <;> cases am.getLsbD i <;> cases bv.getLsbD i <;> cases bm.getLsbD i <;> simp
  · rw [c_or, c_xor, c_andNot] at he
    have := out he
    subst this
    rw [BitVec.getLsbD_or] at hm
    cases ha : am.getLsbD i with
    | true =>
      refine both_of (mem_self av am) (mem_self bv bm) (mem_one av am i ha) (mem_self bv bm) ?_
      rw [BitVec.getLsbD_xor, BitVec.getLsbD_xor, one_bit _ _ _ hi, ta i ha]
      cases bv.getLsbD i <;> simp
    | false =>
      have hb1 : bm.getLsbD i = true := by rw [ha] at hm; simpa using hm
      refine both_of (mem_self av am) (mem_self bv bm) (mem_self av am) (mem_one bv bm i hb1) ?_
      rw [BitVec.getLsbD_xor, BitVec.getLsbD_xor, one_bit _ _ _ hi, tb i hb1]
      cases av.getLsbD i <;> simp
  · have fs := f_sub 0#64 0#64 av am
    rw [c_zero] at fs
    rw [fs] at he
    have := out he
    subst this
    have t0 : Tidy 0#64 0#64 := fun j _ => BitVec.getLsbD_zero
    obtain ⟨⟨x, y, hx, hy, h⟩, ⟨x', y', hx', hy', h'⟩⟩ := sub_both t0 ta hi hm
    rw [mem_const hx] at h
    rw [mem_const hx'] at h'
    exact ⟨⟨y, bv, hy, mem_self _ _, h⟩, ⟨y', bv, hy', mem_self _ _, h'⟩⟩
  · have := out he
    subst this
    refine both_of (mem_self av am) (mem_self bv bm) (mem_self av am) (mem_one bv bm i hm) ?_
    rw [one_bit _ _ _ hi, tb i hm]
    simp
  · subst hb0
    rw [c_zero, if_pos rfl, f_shl _ _ n hn1] at he
    have := out he
    subst this
    refine both_of (mem_self av am) (mem_self bv 0#64) (mem_all av am) (mem_self bv 0#64) ?_
    rw [← hn2]
    rw [BitVec.getLsbD_shiftLeft] at hm ⊢
    rw [BitVec.getLsbD_shiftLeft]
    have h1 : am.getLsbD (i - n) = true := by revert hm; cases am.getLsbD (i - n) <;> simp
    have h2 : ¬ i < n := by intro h; simp [h] at hm
    rw [BitVec.getLsbD_or, h1, ta _ h1]
    simp [hi, h2]
  · subst hb0
    rw [c_zero, if_pos rfl, show wrap64 (-(n : Int)) = -(n : Int) by unfold wrap64; omega, f_shr _ _ n hn1] at he
    have := out he
    subst this
    refine both_of (mem_self av am) (mem_self bv 0#64) (mem_all av am) (mem_self bv 0#64) ?_
    rw [← hn2]
    rw [BitVec.getLsbD_ushiftRight] at hm ⊢
    rw [BitVec.getLsbD_ushiftRight, BitVec.getLsbD_or, hm, ta _ hm]
    simp

/-- A number that the low halves hold comes of one that the whole holds. -/
theorem raise {w : Bool} {v m x : W} (h : Mem (inp w v) (inp w m) x) (hx : inp w x = x) : ∃ z, Mem v m z ∧ inp w z = x := by
  cases w with
  | true => exact ⟨x, h, rfl⟩
  | false =>
    have c : ∀ z : W, ∀ i, (lo z).getLsbD i = (z.getLsbD i && (4294967295#64).getLsbD i) := fun z i => by unfold lo; rw [BitVec.getLsbD_and]
    refine ⟨(x &&& 4294967295#64) ||| (v &&& ~~~4294967295#64), fun i hm => ?_, ?_⟩
    · by_cases hi : i < 64
      · have h1 := h i
        rw [show inp false m = lo m from rfl, show inp false v = lo v from rfl, c, c, hm] at h1
        have h2 := h1 (by simp)
        rw [BitVec.getLsbD_or, BitVec.getLsbD_and, BitVec.getLsbD_and, not_bit hi, h2]
        cases (4294967295#64).getLsbD i <;> simp
      · rw [BitVec.getLsbD_of_ge _ i (by omega), BitVec.getLsbD_of_ge _ i (by omega)]
    · rw [← hx]
      refine eq_of_bits fun i hi => ?_
      show (lo _).getLsbD i = (lo x).getLsbD i
      rw [c, c, BitVec.getLsbD_or, BitVec.getLsbD_and, BitVec.getLsbD_and, not_bit hi, show (inp false x).getLsbD i = (x.getLsbD i && (4294967295#64).getLsbD i) from c x i]
      cases (4294967295#64).getLsbD i <;> simp
theorem inp_bit {w : Bool} {r z : W} {i : Nat} (h : (inp w r).getLsbD i = true) : r.getLsbD i = true ∧ (inp w z).getLsbD i = z.getLsbD i := by
  cases w with
  | true => exact ⟨h, rfl⟩
  | false =>
    have c : ∀ z : W, (inp false z).getLsbD i = (z.getLsbD i && (4294967295#64).getLsbD i) := fun z => by show (lo z).getLsbD i = _; unfold lo; rw [BitVec.getLsbD_and]
    rw [c] at h
    simp only [Bool.and_eq_true] at h
    rw [c, h.2]
    exact ⟨h.1, by simp⟩
end Go.Proofs.Ytladlljnpmpdpaa.TnBestTnumBest
