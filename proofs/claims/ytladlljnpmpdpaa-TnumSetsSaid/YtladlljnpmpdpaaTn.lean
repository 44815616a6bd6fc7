/- Plain: numbers of 64 bits of which some bits are known: what sums, differences, products and bitwise operations of them hold. No program here. -/
namespace Go.Proofs.Ytladlljnpmpdpaa.Tn

abbrev W := BitVec 64

/-- x is held by the value v under the mask m: it is v where m is zero. -/
def Mem (v m x : W) : Prop := ∀ i, m.getLsbD i = false → x.getLsbD i = v.getLsbD i
/-- No bit in both. -/
def Tidy (v m : W) : Prop := ∀ i, m.getLsbD i = true → v.getLsbD i = false
/-- Bit by bit below. -/
def Sub (a x : W) : Prop := ∀ i, a.getLsbD i = true → x.getLsbD i = true

theorem eq_of_bits {x y : W} (h : ∀ i, i < 64 → x.getLsbD i = y.getLsbD i) : x = y := BitVec.eq_of_getLsbD_eq h

theorem sub_mod {a x : W} (h : Sub a x) (i : Nat) : a.toNat % 2 ^ i ≤ x.toNat % 2 ^ i := by
  have e : a = a &&& x := eq_of_bits fun j _ => by
    rw [BitVec.getLsbD_and]
    cases ha : a.getLsbD j with
    | false => simp
    | true => rw [h j ha]; rfl
  have e2 : a.toNat = a.toNat &&& x.toNat := by rw [← BitVec.toNat_and, ← e]
  rw [e2, Nat.and_mod_two_pow]
  exact Nat.and_le_right

theorem carry_mono {a x b y : W} (h1 : Sub a x) (h2 : Sub b y) (i : Nat) (c : Bool) (h : BitVec.carry i a b c = true) : BitVec.carry i x y c = true := by
  unfold BitVec.carry at *
  have p := sub_mod h1 i
  have q := sub_mod h2 i
  simp only [decide_eq_true_eq, ge_iff_le] at *
  omega

theorem carry_squeeze {a x a' b y b' : W} (h1 : Sub a x) (h2 : Sub x a') (h3 : Sub b y) (h4 : Sub y b') {i : Nat} {c : Bool} (h : BitVec.carry i a b c = BitVec.carry i a' b' c) : BitVec.carry i x y c = BitVec.carry i a b c := by
  cases e : BitVec.carry i a b c with
  | true => exact carry_mono h1 h3 i c e
  | false =>
    rw [e] at h
    cases e2 : BitVec.carry i x y c with
    | false => rfl
    | true => rw [carry_mono h2 h4 i c e2] at h; cases h

theorem sub_lo {v m x : W} (ht : Tidy v m) (h : Mem v m x) : Sub v x := fun i hv => by
  cases hm : m.getLsbD i with
  | false => rw [h i hm, hv]
  | true => rw [ht i hm] at hv; cases hv
theorem sub_hi {v m x : W} (h : Mem v m x) : Sub x (v ||| m) := fun i hx => by
  rw [BitVec.getLsbD_or]
  cases hm : m.getLsbD i with
  | true => simp
  | false => rw [← h i hm, hx]; rfl
theorem sub_refl (x : W) : Sub x x := fun _ h => h
theorem sub_or (v m : W) : Sub v (v ||| m) := fun i h => by rw [BitVec.getLsbD_or, h]; rfl
theorem sub_not {a b : W} (h : Sub a b) : Sub (~~~b) (~~~a) := fun i hi => by
  rw [BitVec.getLsbD_not] at *
  cases ha : a.getLsbD i with
  | false => simp at hi ⊢; exact hi.1
  | true => rw [h i ha] at hi; simp at hi
theorem or_add {v m : W} (ht : Tidy v m) : v ||| m = v + m := by
  rw [BitVec.add_eq_or_of_and_eq_zero]
  exact eq_of_bits fun i _ => by
    rw [BitVec.getLsbD_and, BitVec.getLsbD_zero]
    cases hm : m.getLsbD i with
    | false => simp
    | true => rw [ht i hm]; rfl

theorem bit_add {x y : W} {i : Nat} (hi : i < 64) : (x + y).getLsbD i = (x.getLsbD i ^^ (y.getLsbD i ^^ BitVec.carry i x y false)) := BitVec.getLsbD_add hi x y
theorem bit_sub {x y : W} {i : Nat} (hi : i < 64) : (x - y).getLsbD i = (x.getLsbD i ^^ ((~~~y).getLsbD i ^^ BitVec.carry i x (~~~y) true)) := by
  have h := BitVec.getLsbD_add_add_bool hi x (~~~y) true
  rw [← h]
  congr 1
  rw [BitVec.sub_eq_add_neg, BitVec.neg_eq_not_add, BitVec.add_assoc]
  rfl

/-! ### Sums -/
def addM (av am bv bm : W) : W := (((am + bm) + (av + bv)) ^^^ (av + bv)) ||| am ||| bm
def addV (av am bv bm : W) : W := (av + bv) &&& ~~~(addM av am bv bm)

theorem tidy_andNot (v m : W) : Tidy (v &&& ~~~m) m := fun i h => by
  rw [BitVec.getLsbD_and, BitVec.getLsbD_not, h]; simp
theorem mem_andNot {v m x : W} : Mem (v &&& ~~~m) m x ↔ Mem v m x := by
  constructor
  · intro h i hm
    rw [h i hm, BitVec.getLsbD_and, BitVec.getLsbD_not, hm]
    by_cases hi : i < 64
    · simp [hi]
    · rw [BitVec.getLsbD_of_ge v i (by omega)]; rfl
  · intro h i hm
    rw [h i hm, BitVec.getLsbD_and, BitVec.getLsbD_not, hm]
    by_cases hi : i < 64
    · simp [hi]
    · rw [BitVec.getLsbD_of_ge v i (by omega)]; rfl

theorem not_bit {x : W} {i : Nat} (hi : i < 64) : (~~~x).getLsbD i = !x.getLsbD i := by rw [BitVec.getLsbD_not]; simp [hi]

theorem addM_bit {av am bv bm : W} (ha : Tidy av am) (hb : Tidy bv bm) {i : Nat} (hi : i < 64) :
    (addM av am bv bm).getLsbD i = ((BitVec.carry i (av ||| am) (bv ||| bm) false ^^ BitVec.carry i av bv false) || am.getLsbD i || bm.getLsbD i) := by
  unfold addM
  have e : (am + bm) + (av + bv) = (av ||| am) + (bv ||| bm) := by
    rw [or_add ha, or_add hb]; ac_rfl
  rw [e, BitVec.getLsbD_or, BitVec.getLsbD_or, BitVec.getLsbD_xor, bit_add hi, bit_add hi, BitVec.getLsbD_or, BitVec.getLsbD_or]
  cases am.getLsbD i <;> cases bm.getLsbD i <;> cases av.getLsbD i <;> cases bv.getLsbD i <;> cases BitVec.carry i (av ||| am) (bv ||| bm) false <;> cases BitVec.carry i av bv false <;> rfl

theorem add_sound {av am bv bm x y : W} (ha : Tidy av am) (hb : Tidy bv bm) (hx : Mem av am x) (hy : Mem bv bm y) : Mem (addV av am bv bm) (addM av am bv bm) (x + y) := by
  refine mem_andNot.2 fun i hm => ?_
  by_cases hi : i < 64
  · rw [addM_bit ha hb hi] at hm
    simp only [Bool.or_eq_false_iff] at hm
    obtain ⟨⟨hc, ha0⟩, hb0⟩ := hm
    have hc' : BitVec.carry i av bv false = BitVec.carry i (av ||| am) (bv ||| bm) false := by
      revert hc; cases BitVec.carry i (av ||| am) (bv ||| bm) false <;> cases BitVec.carry i av bv false <;> simp
    rw [bit_add hi, bit_add hi, hx i ha0, hy i hb0, carry_squeeze (sub_lo ha hx) (sub_hi hx) (sub_lo hb hy) (sub_hi hy) hc']
  · rw [BitVec.getLsbD_of_ge _ i (by omega), BitVec.getLsbD_of_ge _ i (by omega)]

/-! ### Differences -/
def subM (av am bv bm : W) : W := (((av - bv) + am) ^^^ ((av - bv) - bm)) ||| am ||| bm
def subV (av am bv bm : W) : W := (av - bv) &&& ~~~(subM av am bv bm)

theorem subM_bit {av am bv bm : W} (ha : Tidy av am) (hb : Tidy bv bm) {i : Nat} (hi : i < 64) :
    (subM av am bv bm).getLsbD i = ((BitVec.carry i (av ||| am) (~~~bv) true ^^ BitVec.carry i av (~~~(bv ||| bm)) true) || am.getLsbD i || bm.getLsbD i) := by
  unfold subM
  have e1 : (av - bv) + am = (av ||| am) - bv := by rw [or_add ha, BitVec.sub_eq_add_neg, BitVec.sub_eq_add_neg]; ac_rfl
  have e2 : (av - bv) - bm = av - (bv ||| bm) := by rw [or_add hb, BitVec.sub_eq_add_neg, BitVec.sub_eq_add_neg, BitVec.sub_eq_add_neg, BitVec.neg_add, BitVec.sub_eq_add_neg]; ac_rfl
  rw [e1, e2, BitVec.getLsbD_or, BitVec.getLsbD_or, BitVec.getLsbD_xor, bit_sub hi, bit_sub hi, BitVec.getLsbD_or, not_bit hi, not_bit hi, BitVec.getLsbD_or]
  cases am.getLsbD i <;> cases bm.getLsbD i <;> cases av.getLsbD i <;> cases bv.getLsbD i <;> cases BitVec.carry i (av ||| am) (~~~bv) true <;> cases BitVec.carry i av (~~~(bv ||| bm)) true <;> rfl

theorem sub_sound {av am bv bm x y : W} (ha : Tidy av am) (hb : Tidy bv bm) (hx : Mem av am x) (hy : Mem bv bm y) : Mem (subV av am bv bm) (subM av am bv bm) (x - y) := by
  refine mem_andNot.2 fun i hm => ?_
  by_cases hi : i < 64
  · rw [subM_bit ha hb hi] at hm
    simp only [Bool.or_eq_false_iff] at hm
    obtain ⟨⟨hc, ha0⟩, hb0⟩ := hm
    have hc' : BitVec.carry i av (~~~(bv ||| bm)) true = BitVec.carry i (av ||| am) (~~~bv) true := by
      revert hc; cases BitVec.carry i (av ||| am) (~~~bv) true <;> cases BitVec.carry i av (~~~(bv ||| bm)) true <;> simp
    have s1 := carry_squeeze (sub_lo ha hx) (sub_hi hx) (sub_not (sub_hi hy)) (sub_not (sub_lo hb hy)) hc'
    have s2 := carry_squeeze (sub_refl av) (sub_or av am) (sub_not (sub_or bv bm)) (sub_refl (~~~bv)) hc'
    rw [bit_sub hi, bit_sub hi, s1, s2, hx i ha0, not_bit hi, not_bit hi, hy i hb0]
  · rw [BitVec.getLsbD_of_ge _ i (by omega), BitVec.getLsbD_of_ge _ i (by omega)]

/-! ### Bit by bit -/
theorem or_sound {av am bv bm x y : W} (ha : Tidy av am) (hb : Tidy bv bm) (hx : Mem av am x) (hy : Mem bv bm y) : Mem (av ||| bv) ((am ||| bm) &&& ~~~(av ||| bv)) (x ||| y) := fun i hm => by
  by_cases hi : i < 64
  · have p := ha i; have q := hb i; have r := hx i; have s := hy i
    rw [BitVec.getLsbD_and, BitVec.getLsbD_or, not_bit hi, BitVec.getLsbD_or] at hm
    rw [BitVec.getLsbD_or, BitVec.getLsbD_or]
    revert p q r s hm
    generalize av.getLsbD i = a1; generalize am.getLsbD i = a2; generalize bv.getLsbD i = b1; generalize bm.getLsbD i = b2; generalize x.getLsbD i = x1; generalize y.getLsbD i = y1
    revert a1 a2 b1 b2 x1 y1; decide
  · rw [BitVec.getLsbD_of_ge _ i (by omega), BitVec.getLsbD_of_ge _ i (by omega)]
theorem and_sound {av am bv bm x y : W} (ha : Tidy av am) (hb : Tidy bv bm) (hx : Mem av am x) (hy : Mem bv bm y) : Mem (av &&& bv) (((av ||| am) &&& (bv ||| bm)) &&& ~~~(av &&& bv)) (x &&& y) := fun i hm => by
  by_cases hi : i < 64
  · have p := ha i; have q := hb i; have r := hx i; have s := hy i
    rw [BitVec.getLsbD_and, BitVec.getLsbD_and, BitVec.getLsbD_or, BitVec.getLsbD_or, not_bit hi, BitVec.getLsbD_and] at hm
    rw [BitVec.getLsbD_and, BitVec.getLsbD_and]
    revert p q r s hm
    generalize av.getLsbD i = a1; generalize am.getLsbD i = a2; generalize bv.getLsbD i = b1; generalize bm.getLsbD i = b2; generalize x.getLsbD i = x1; generalize y.getLsbD i = y1
    revert a1 a2 b1 b2 x1 y1; decide
  · rw [BitVec.getLsbD_of_ge _ i (by omega), BitVec.getLsbD_of_ge _ i (by omega)]
theorem xor_sound {av am bv bm x y : W} (hx : Mem av am x) (hy : Mem bv bm y) : Mem ((av ^^^ bv) &&& ~~~(am ||| bm)) (am ||| bm) (x ^^^ y) := by
  refine mem_andNot.2 fun i hm => ?_
  rw [BitVec.getLsbD_or, Bool.or_eq_false_iff] at hm
  rw [BitVec.getLsbD_xor, BitVec.getLsbD_xor, hx i hm.1, hy i hm.2]
theorem tidy_keep {v m : W} : Tidy v (m &&& ~~~v) := fun i h => by
  rw [BitVec.getLsbD_and, BitVec.getLsbD_not] at h
  cases hv : v.getLsbD i with
  | false => rfl
  | true => rw [hv] at h; simp at h
theorem shl_sound {v m x : W} (n : Nat) (h : Mem v m x) : Mem (v <<< n) (m <<< n) (x <<< n) := fun i hm => by
  rw [BitVec.getLsbD_shiftLeft] at *
  rw [BitVec.getLsbD_shiftLeft]
  by_cases h1 : i < 64
  · by_cases h2 : i < n
    · simp [h2]
    · simp only [h1, h2, decide_true, decide_false, Bool.not_false, Bool.true_and] at hm ⊢
      exact h _ hm
  · simp [h1]
theorem shl_tidy {v m : W} (n : Nat) (h : Tidy v m) : Tidy (v <<< n) (m <<< n) := fun i hm => by
  rw [BitVec.getLsbD_shiftLeft] at *
  by_cases h1 : i < 64
  · by_cases h2 : i < n
    · simp [h2]
    · simp only [h1, h2, decide_true, decide_false, Bool.not_false, Bool.true_and] at hm ⊢
      exact h _ hm
  · simp [h1]
theorem shr_sound {v m x : W} (n : Nat) (h : Mem v m x) : Mem (v >>> n) (m >>> n) (x >>> n) := fun i hm => by
  rw [BitVec.getLsbD_ushiftRight] at *
  rw [BitVec.getLsbD_ushiftRight]
  exact h _ hm
theorem shr_tidy {v m : W} (n : Nat) (h : Tidy v m) : Tidy (v >>> n) (m >>> n) := fun i hm => by
  rw [BitVec.getLsbD_ushiftRight] at *
  exact h _ hm
theorem and_mem {v m x : W} (c : W) (h : Mem v m x) : Mem (v &&& c) (m &&& c) (x &&& c) := fun i hm => by
  rw [BitVec.getLsbD_and] at *
  rw [BitVec.getLsbD_and]
  cases hc : c.getLsbD i with
  | false => simp
  | true => rw [hc, Bool.and_true] at hm; rw [h i hm]
theorem and_tidy {v m : W} (c : W) (h : Tidy v m) : Tidy (v &&& c) (m &&& c) := fun i hm => by
  rw [BitVec.getLsbD_and] at *
  simp only [Bool.and_eq_true] at hm
  rw [h i hm.1]; rfl
theorem mem_any (x : W) (v : W) : Mem v (BitVec.allOnes 64) x := fun i hm => by
  by_cases hi : i < 64
  · rw [BitVec.getLsbD_allOnes] at hm; simp [hi] at hm
  · rw [BitVec.getLsbD_of_ge _ i (by omega), BitVec.getLsbD_of_ge _ i (by omega)]
theorem mem_const {v x : W} (h : Mem v 0#64 x) : x = v := eq_of_bits fun i _ => h i (by simp)
theorem mem_self (v : W) (m : W) : Mem v m v := fun _ _ => rfl
theorem mem_zero {m y : W} (v : W) (h : Sub y (v ||| m)) : Mem 0#64 (m ||| v) y := fun i hm => by
  rw [BitVec.getLsbD_or, Bool.or_eq_false_iff] at hm
  rw [BitVec.getLsbD_zero]
  cases hy : y.getLsbD i with
  | false => rfl
  | true => have := h i hy; rw [BitVec.getLsbD_or, hm.1, hm.2] at this; cases this

/-! ### Products, bit by bit -/
theorem mul_step (x y : W) : x * y = (if x.getLsbD 0 then y else 0#64) + (x >>> 1) * (y <<< 1) := by
  apply BitVec.eq_of_toNat_eq
  rw [BitVec.toNat_mul, BitVec.toNat_add, BitVec.toNat_mul, BitVec.toNat_ushiftRight, BitVec.toNat_shiftLeft, Nat.shiftRight_eq_div_pow, Nat.shiftLeft_eq, Nat.pow_one]
  have hb : x.getLsbD 0 = decide (x.toNat % 2 = 1) := by
    rw [BitVec.getLsbD, Nat.testBit_zero]
  rw [hb]
  generalize x.toNat = a
  have key : ∀ b : Nat, a * b % 2 ^ 64 = ((if a % 2 = 1 then b else 0) + a / 2 * (b * 2)) % 2 ^ 64 := fun b => by
    congr 1
    have h : a = 2 * (a / 2) + a % 2 := by omega
    have e : a / 2 * (b * 2) = 2 * (a / 2) * b := by rw [Nat.mul_comm b 2, ← Nat.mul_assoc, Nat.mul_comm (a / 2) 2]
    have h2 : a % 2 = 0 ∨ a % 2 = 1 := by omega
    rcases h2 with h2 | h2
    · rw [if_neg (by omega), e, Nat.zero_add]
      congr 1; omega
    · rw [if_pos h2, e]
      have : a = 2 * (a / 2) + 1 := by omega
      calc a * b = (2 * (a / 2) + 1) * b := by rw [← this]
        _ = 2 * (a / 2) * b + b := by rw [Nat.add_mul, Nat.one_mul]
        _ = b + 2 * (a / 2) * b := Nat.add_comm _ _
  rw [key y.toNat]
  have hy : (if decide (a % 2 = 1) = true then y else 0#64).toNat = if a % 2 = 1 then y.toNat else 0 := by
    by_cases h : a % 2 = 1 <;> simp [h]
  rw [hy]
  rw [Nat.add_mod, Nat.add_mod _ (a / 2 * (y.toNat * 2 % 2 ^ 64) % 2 ^ 64), Nat.mod_mod]
  congr 2
  rw [Nat.mul_mod, Nat.mul_mod (a / 2) (y.toNat * 2 % 2 ^ 64), Nat.mod_mod]
end Go.Proofs.Ytladlljnpmpdpaa.Tn
