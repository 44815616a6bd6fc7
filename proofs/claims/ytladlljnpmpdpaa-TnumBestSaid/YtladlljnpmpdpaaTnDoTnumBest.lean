/- What tnum.Do makes of two tnums holds whatever the operation makes of numbers that they hold. -/
import Derived.Test.YtladlljnpmpdpaaPTnumBestx
import Derived.Test.YtladlljnpmpdpaaDoTnumBest
import Derived.Test.YtladlljnpmpdpaaBv
import Derived.Test.YtladlljnpmpdpaaTn
namespace Go.Proofs.Ytladlljnpmpdpaa.TnDoTnumBest
open Go.RowKit Go.Proofs.Ytladlljnpmpdpaa.PTnumBest Go.Proofs.YtladlljnpmpdpaaW.PrintWords Go.Proofs.YtladlljnpmpdpaaW.PrintLast Go.Proofs.YtladlljnpmpdpaaW.PrintMore
open Go.Proofs.Ytladlljnpmpdpaa.Num Go.Proofs.Ytladlljnpmpdpaa.DoTnumBest Go.Proofs.Ytladlljnpmpdpaa.Bv Go.Proofs.Ytladlljnpmpdpaa.Tn

theorem f_tidy (v m : W) : tnum_tidy.f (v.toNat : Int) (m.toNat : Int) = some (((v &&& ~~~m).toNat : Int), (m.toNat : Int)) := by
  simp only [tnum_tidy.f, c_andNot]
theorem f_cut (v m : W) : tnum_cut.f (v.toNat : Int) (m.toNat : Int) = some (((lo v).toNat : Int), ((lo m).toNat : Int)) := by
  simp only [tnum_cut.f, c_lo]
theorem f_add (av am bv bm : W) : tnum_add.f (av.toNat : Int) (am.toNat : Int) (bv.toNat : Int) (bm.toNat : Int) = some (((addV av am bv bm).toNat : Int), ((addM av am bv bm).toNat : Int)) := by
  simp only [tnum_add.f, c_add, c_xor, c_or, c_andNot, addV, addM]
theorem f_sub (av am bv bm : W) : tnum_sub.f (av.toNat : Int) (am.toNat : Int) (bv.toNat : Int) (bm.toNat : Int) = some (((subV av am bv bm).toNat : Int), ((subM av am bv bm).toNat : Int)) := by
  simp only [tnum_sub.f, c_add, c_sub, c_xor, c_or, c_andNot, subV, subM]
theorem f_any : tnum_Any.f = some (((0#64).toNat : Int), ((BitVec.allOnes 64).toNat : Int)) := by decide +kernel
theorem f_shl (v m : W) (n : Nat) (hn : n ≤ 63) : tnum_shift.f (v.toNat : Int) (m.toNat : Int) (n : Int) = some (((v <<< n).toNat : Int), ((m <<< n).toNat : Int)) := by
  have e : IntKind.u64.wrap (n : Int) = (n : Int) := by rw [IntKind.wrap_u64]; omega
  simp only [tnum_shift.f]
  rw [if_neg (by omega), e, if_pos (by omega), c_shl v n (by omega), c_shl m n (by omega)]
theorem f_shr (v m : W) (n : Nat) (hn : n ≤ 63) : tnum_shift.f (v.toNat : Int) (m.toNat : Int) (-(n : Int)) = some (((v >>> n).toNat : Int), ((m >>> n).toNat : Int)) := by
  by_cases h0 : n = 0
  · subst h0
    have := f_shl v m 0 (by omega)
    simpa using this
  · have e : IntKind.u64.wrap (wrap64 (-(-(n : Int)))) = (n : Int) := by rw [IntKind.wrap_u64]; unfold wrap64; omega
    simp only [tnum_shift.f]
    rw [if_pos (by omega), e, if_pos (by omega), c_shr v n (by omega), c_shr m n (by omega)]

theorem bit0 (x : W) : (Go.bits .and .u64 (x.toNat : Int) 1 = 0) ↔ x.getLsbD 0 = false := by
  rw [show (1 : Int) = ((1#64).toNat : Int) from rfl, c_and, c_eq0]
  constructor
  · intro h
    have := congrArg (fun z => BitVec.getLsbD z 0) h
    simpa using this
  · intro h
    refine eq_of_bits fun i _ => ?_
    rw [BitVec.getLsbD_and, BitVec.getLsbD_zero]
    by_cases h0 : i = 0
    · subst h0; rw [h]; rfl
    · rw [show (1#64).getLsbD i = false by rw [BitVec.getLsbD_one]; simp [h0]]; simp

theorem mul_loop (n : Nat) : ∀ (k : Nat) (av am bv bm ov om : W), 2 * n + 2 ≤ k → av.toNat < 2 ^ n → am.toNat < 2 ^ n → Tidy av am → Tidy bv bm → Tidy ov om →
    ∃ rv rm : W, tnum_mul.l0 k (av.toNat : Int) (am.toNat : Int) (bv.toNat : Int) (bm.toNat : Int) (ov.toNat : Int) (om.toNat : Int) = some ((rv.toNat : Int), (rm.toNat : Int)) ∧ Tidy rv rm ∧
      ∀ x y z, Mem av am x → Mem bv bm y → Mem ov om z → Mem rv rm (z + x * y) := by
  induction n with
  | zero =>
    intro k av am bv bm ov om hk h1 h2 ta tb tO
    obtain ⟨k, rfl⟩ : ∃ q, k = q + 2 := ⟨k - 2, by omega⟩
    have ea : av = 0#64 := BitVec.eq_of_toNat_eq (by simp at h1 ⊢; omega)
    have em : am = 0#64 := BitVec.eq_of_toNat_eq (by simp at h2 ⊢; omega)
    subst ea em
    refine ⟨ov, om, ?_, tO, fun x y z hx _ hz => ?_⟩
    · simp only [tnum_mul.l0, tnum_mul.j1, c_zero, if_true, bne_self_eq_false, Bool.false_eq_true, if_false]
    · rw [mem_const hx]; simpa using hz
  | succ n ih =>
    intro k av am bv bm ov om hk h1 h2 ta tb tO
    obtain ⟨k, rfl⟩ : ∃ q, k = q + 2 := ⟨k - 2, by omega⟩
    have s1 : (av >>> 1).toNat < 2 ^ n := by rw [BitVec.toNat_ushiftRight, Nat.shiftRight_eq_div_pow, Nat.pow_one]; rw [Nat.pow_succ] at h1; omega
    have s2 : (am >>> 1).toNat < 2 ^ n := by rw [BitVec.toNat_ushiftRight, Nat.shiftRight_eq_div_pow, Nat.pow_one]; rw [Nat.pow_succ] at h2; omega
    by_cases hz : av = 0#64 ∧ am = 0#64
    · obtain ⟨rfl, rfl⟩ := hz
      refine ⟨ov, om, ?_, tO, fun x y z hx _ hz => ?_⟩
      · simp only [tnum_mul.l0, tnum_mul.j1, c_zero, if_true, bne_self_eq_false, Bool.false_eq_true, if_false]
      · rw [mem_const hx]; simpa using hz
    · have hj : tnum_mul.l0 (k + 2) (av.toNat : Int) (am.toNat : Int) (bv.toNat : Int) (bm.toNat : Int) (ov.toNat : Int) (om.toNat : Int) = tnum_mul.j1 (k + 1) true (av.toNat : Int) (am.toNat : Int) (bv.toNat : Int) (bm.toNat : Int) (ov.toNat : Int) (om.toNat : Int) := by
        simp only [tnum_mul.l0]
        by_cases h0 : av = 0#64
        · have hm : am ≠ 0#64 := fun e => hz ⟨h0, e⟩
          rw [if_pos ((c_eq0 av).2 h0)]
          congr 1
          rw [bne_iff_ne]
          exact fun e => hm ((c_eq0 am).1 e)
        · rw [if_neg (fun e => h0 ((c_eq0 av).1 e))]
      rw [hj]
      simp only [tnum_mul.j1, if_true]
      have fl := f_shl bv bm 1 (by omega)
      have fr := f_shr av am 1 (by omega)
      rw [show ((1 : Nat) : Int) = 1 from rfl] at fl fr
      by_cases hm0 : am.getLsbD 0 = false
      · rw [if_pos ((bit0 am).2 hm0)]
        by_cases hv0 : av.getLsbD 0 = false
        · rw [if_pos ((bit0 av).2 hv0), fl]
          simp only [Option.bind_some]
          rw [fr]
          simp only [Option.bind_some]
          obtain ⟨rv, rm, e, t, h⟩ := ih k (av >>> 1) (am >>> 1) (bv <<< 1) (bm <<< 1) ov om (by omega) s1 s2 (shr_tidy 1 ta) (shl_tidy 1 tb) tO
          refine ⟨rv, rm, e, t, fun x y z hx hy hz => ?_⟩
          rw [mul_step, hx 0 hm0, hv0]
          simpa using h _ _ z (shr_sound 1 hx) (shl_sound 1 hy) hz
        · rw [if_neg (fun e => hv0 ((bit0 av).1 e)), f_add]
          simp only [Option.bind_some]
          rw [fl]
          simp only [Option.bind_some]
          rw [fr]
          simp only [Option.bind_some]
          obtain ⟨rv, rm, e, t, h⟩ := ih k (av >>> 1) (am >>> 1) (bv <<< 1) (bm <<< 1) (addV ov om bv bm) (addM ov om bv bm) (by omega) s1 s2 (shr_tidy 1 ta) (shl_tidy 1 tb) (tidy_andNot _ _)
          refine ⟨rv, rm, e, t, fun x y z hx hy hz => ?_⟩
          rw [mul_step, hx 0 hm0, if_pos (by simpa using hv0), ← BitVec.add_assoc]
          exact h _ _ _ (shr_sound 1 hx) (shl_sound 1 hy) (add_sound tO tb hz hy)
      · rw [if_neg (fun e => hm0 ((bit0 am).1 e)), c_or]
        have fa := f_add ov om 0#64 (bm ||| bv)
        rw [c_zero] at fa
        rw [fa]
        simp only [Option.bind_some]
        rw [fl]
        simp only [Option.bind_some]
        rw [fr]
        simp only [Option.bind_some]
        obtain ⟨rv, rm, e, t, h⟩ := ih k (av >>> 1) (am >>> 1) (bv <<< 1) (bm <<< 1) (addV ov om 0#64 (bm ||| bv)) (addM ov om 0#64 (bm ||| bv)) (by omega) s1 s2 (shr_tidy 1 ta) (shl_tidy 1 tb) (tidy_andNot _ _)
        have t0 : Tidy 0#64 (bm ||| bv) := fun i _ => BitVec.getLsbD_zero
        refine ⟨rv, rm, e, t, fun x y z hx hy hz => ?_⟩
        rw [mul_step, ← BitVec.add_assoc]
        refine h _ _ _ (shr_sound 1 hx) (shl_sound 1 hy) (add_sound tO t0 hz ?_)
        by_cases hb : x.getLsbD 0 = true
        · rw [if_pos hb]; exact mem_zero bv (sub_hi hy)
        · rw [if_neg hb]; exact mem_zero bv (fun i hi => by rw [BitVec.getLsbD_zero] at hi; cases hi)

theorem f_mul (k : Nat) (hk : 140 ≤ k) (av am bv bm : W) (ta : Tidy av am) (tb : Tidy bv bm) : ∃ rv rm : W, tnum_mul.f k (av.toNat : Int) (am.toNat : Int) (bv.toNat : Int) (bm.toNat : Int) = some ((rv.toNat : Int), (rm.toNat : Int)) ∧ Tidy rv rm ∧
      ∀ x y, Mem av am x → Mem bv bm y → Mem rv rm (x * y) := by
  obtain ⟨rv, rm, e, t, h⟩ := mul_loop 64 k av am bv bm 0#64 0#64 (by omega) av.isLt am.isLt ta tb (fun i h => by rw [BitVec.getLsbD_zero])
  refine ⟨rv, rm, e, t, fun x y hx hy => ?_⟩
  have := h x y 0#64 hx hy (mem_self _ _)
  simpa using this

/-- The operations over bit vectors; n: how far a shift goes. -/
def opb (k : Int) (n : Nat) (x y : W) : W :=
  if k = 0 then x + y else if k = 16 then x - y else if k = 32 then x * y else if k = 64 then x ||| y else if k = 80 then x &&& y else if k = 96 then x <<< n else if k = 112 then x >>> n else if k = 128 then 0#64 - x else if k = 160 then x ^^^ y else y

/-- What 'do' makes of two tidy tnums. -/
theorem do_sound (k : Nat) (hk : 150 ≤ k) (x0 : Int) (hx0 : x0 ∈ ops) (w : Bool) (av am bv bm : W) (ta : Tidy av am) (tb : Tidy bv bm) :
    ∃ rv rm : W, tnum_do.f k x0 w (av.toNat : Int) (am.toNat : Int) (bv.toNat : Int) (bm.toNat : Int) = some ((rv.toNat : Int), (rm.toNat : Int)) ∧ Tidy rv rm ∧
      ∀ x y z, Mem av am x → Mem bv bm y → (x0 ∈ ([48, 144, 192] : List Int) ∨ z = opb x0 (y.toNat % (if w then 64 else 32)) x y) → Mem rv rm z := by
  obtain ⟨k, rfl⟩ : ∃ q, k = q + 1 := ⟨k - 1, by omega⟩
  have hn : ∃ n : Nat, n ≤ 63 ∧ n = bv.toNat % (if w then 64 else 32) ∧ tnum_do.f (k + 1) x0 w (av.toNat : Int) (am.toNat : Int) (bv.toNat : Int) (bm.toNat : Int) = tnum_do.j0 (k + 1) x0 (n : Int) (av.toNat : Int) (am.toNat : Int) (bv.toNat : Int) (bm.toNat : Int) := by
    unfold tnum_do.f
    cases w with
    | true =>
      refine ⟨bv.toNat % 64, by omega, rfl, ?_⟩
      rw [if_pos rfl, and_63 bv.isLt, show wrap64 ((bv.toNat % 64 : Nat) : Int) = ((bv.toNat % 64 : Nat) : Int) by unfold wrap64; omega]
    | false =>
      refine ⟨bv.toNat % 32, by omega, rfl, ?_⟩
      rw [if_neg (by decide), and_31 bv.isLt, show wrap64 ((bv.toNat % 32 : Nat) : Int) = ((bv.toNat % 32 : Nat) : Int) by unfold wrap64; omega]
  obtain ⟨n, hn1, hn2, hn3⟩ := hn
  rw [hn3]
  have any : ∃ rv rm : W, (tnum_Any.f.bind fun bt => some (bt.1, bt.2)) = some ((rv.toNat : Int), (rm.toNat : Int)) ∧ Tidy rv rm ∧ ∀ z, Mem rv rm z :=
    ⟨0#64, BitVec.allOnes 64, by rw [f_any]; rfl, fun i _ => BitVec.getLsbD_zero, fun z => mem_any z _⟩
  simp only [ops, List.mem_cons, List.not_mem_nil, or_false] at hx0
  rcases hx0 with rfl | rfl | rfl | rfl | rfl | rfl | rfl | rfl | rfl | rfl | rfl | rfl | rfl <;> simp only [tnum_do.j0, Int.reduceEq, if_true, if_false, opb]
  · rw [f_add]
    exact ⟨_, _, rfl, tidy_andNot _ _, fun x y z hx hy hz => by rcases hz with h | rfl; · simp at h
                                                                exact add_sound ta tb hx hy⟩
  · rw [f_sub]
    exact ⟨_, _, rfl, tidy_andNot _ _, fun x y z hx hy hz => by rcases hz with h | rfl; · simp at h
                                                                exact sub_sound ta tb hx hy⟩
  · obtain ⟨rv, rm, e, t, h⟩ := f_mul k (by omega) av am bv bm ta tb
    rw [e]
    exact ⟨_, _, rfl, t, fun x y z hx hy hz => by rcases hz with h | rfl; · simp at h
                                                  exact h x y hx hy⟩
  · obtain ⟨rv, rm, e, t, h⟩ := any
    exact ⟨rv, rm, e, t, fun x y z _ _ _ => h z⟩
  · rw [c_or, c_or, c_andNot]
    exact ⟨_, _, rfl, tidy_keep, fun x y z hx hy hz => by rcases hz with h | rfl; · simp at h
                                                          exact or_sound ta tb hx hy⟩
  · rw [c_and, c_or, c_or, c_and, c_andNot]
    exact ⟨_, _, rfl, tidy_keep, fun x y z hx hy hz => by rcases hz with h | rfl; · simp at h
                                                          exact and_sound ta tb hx hy⟩
  · by_cases hb : bm = 0#64
    · subst hb
      rw [c_zero, if_pos rfl, f_shl _ _ n hn1]
      refine ⟨_, _, rfl, shl_tidy n ta, fun x y z hx hy hz => ?_⟩
      rcases hz with h | rfl
      · simp at h
      · rw [mem_const hy, ← hn2]; exact shl_sound n hx
    · rw [if_neg (fun e => hb ((c_eq0 bm).1 e))]
      obtain ⟨rv, rm, e, t, h⟩ := any
      exact ⟨rv, rm, e, t, fun x y z _ _ _ => h z⟩
  · by_cases hb : bm = 0#64
    · subst hb
      rw [c_zero, if_pos rfl, show wrap64 (-(n : Int)) = -(n : Int) by unfold wrap64; omega, f_shr _ _ n hn1]
      refine ⟨_, _, rfl, shr_tidy n ta, fun x y z hx hy hz => ?_⟩
      rcases hz with h | rfl
      · simp at h
      · rw [mem_const hy, ← hn2]; exact shr_sound n hx
    · rw [if_neg (fun e => hb ((c_eq0 bm).1 e))]
      obtain ⟨rv, rm, e, t, h⟩ := any
      exact ⟨rv, rm, e, t, fun x y z _ _ _ => h z⟩
  · have fs := f_sub 0#64 0#64 av am
    rw [c_zero] at fs
    rw [fs]
    exact ⟨_, _, rfl, tidy_andNot _ _, fun x y z hx hy hz => by rcases hz with h | rfl; · simp at h
                                                                exact sub_sound (fun i h => by rw [BitVec.getLsbD_zero]) ta (mem_self _ _) hx⟩
  · obtain ⟨rv, rm, e, t, h⟩ := any
    exact ⟨rv, rm, e, t, fun x y z _ _ _ => h z⟩
  · rw [c_or, c_xor, c_andNot]
    exact ⟨_, _, rfl, tidy_andNot _ _, fun x y z hx hy hz => by rcases hz with h | rfl; · simp at h
                                                                exact xor_sound hx hy⟩
  · exact ⟨_, _, rfl, tb, fun x y z hx hy hz => by rcases hz with h | rfl; · simp at h
                                                   exact hy⟩
  · obtain ⟨rv, rm, e, t, h⟩ := any
    exact ⟨rv, rm, e, t, fun x y z _ _ _ => h z⟩

theorem val_lt (k : Int) (hk : k ∈ ops) (B a b : Nat) (hB : 0 < B) (ha : a < 2 ^ B) (hb : b < 2 ^ B) : val k B a b < 2 ^ B := by
  have hpos : 0 < 2 ^ B := Nat.two_pow_pos B
  simp only [ops, List.mem_cons, List.not_mem_nil, or_false] at hk
  rcases hk with rfl | rfl | rfl | rfl | rfl | rfl | rfl | rfl | rfl | rfl | rfl | rfl | rfl <;> simp only [val, Int.reduceEq, if_true, if_false]
  · exact Nat.mod_lt _ hpos
  · exact Nat.mod_lt _ hpos
  · exact Nat.mod_lt _ hpos
  · exact Nat.lt_of_le_of_lt (Nat.div_le_self _ _) ha
  · exact Nat.or_lt_two_pow ha hb
  · exact Nat.lt_of_le_of_lt Nat.and_le_left ha
  · exact Nat.mod_lt _ hpos
  · exact Nat.lt_of_le_of_lt (Nat.div_le_self _ _) ha
  · exact Nat.mod_lt _ hpos
  · exact Nat.lt_of_le_of_lt (Nat.mod_le _ _) ha
  · exact Nat.xor_lt_two_pow ha hb
  · exact hb
  · have hn : b % B < B := Nat.mod_lt _ hB
    have hd : a / 2 ^ (b % B) < 2 ^ (B - b % B) := by
      rw [Nat.div_lt_iff_lt_mul (Nat.two_pow_pos _), ← Nat.pow_add, show B - b % B + b % B = B by omega]; exact ha
    have hp : 2 ^ (B - b % B) ≤ 2 ^ B := pow_le (by omega)
    split <;> omega

/-- What an operation makes of two numbers, as a bit vector. -/
def res (k : Int) (w : Bool) (x y : W) : W := BitVec.ofNat 64 (if w then val k 64 x.toNat y.toNat else val k 32 (x.toNat % 4294967296) (y.toNat % 4294967296))
theorem res_nat (k : Int) (hk : k ∈ ops) (w : Bool) (x y : W) : (res k w x y).toNat = if w then val k 64 x.toNat y.toNat else val k 32 (x.toNat % 4294967296) (y.toNat % 4294967296) := by
  unfold res
  rw [BitVec.toNat_ofNat, Nat.mod_eq_of_lt]
  cases w with
  | true => exact val_lt k hk 64 _ _ (by omega) x.isLt y.isLt
  | false =>
    have h := val_lt k hk 32 (x.toNat % 4294967296) (y.toNat % 4294967296) (by omega) (Nat.mod_lt _ (by decide)) (Nat.mod_lt _ (by decide))
    exact Nat.lt_of_lt_of_le h (by decide)

theorem val_op64 (k : Int) (hk : k ∈ ops) (ha : ¬ k ∈ ([48, 144, 192] : List Int)) (x y : W) : val k 64 x.toNat y.toNat = (opb k (y.toNat % 64) x y).toNat := by
  have := x.isLt; have := y.isLt
  simp only [ops, List.mem_cons, List.not_mem_nil, or_false, not_or] at hk ha
  obtain ⟨h1, h2, h3⟩ := ha
  rcases hk with rfl | rfl | rfl | rfl | rfl | rfl | rfl | rfl | rfl | rfl | rfl | rfl | rfl <;> simp only [val, opb, Int.reduceEq, if_true, if_false] at *
  · rw [BitVec.toNat_add]
  · rw [BitVec.toNat_sub, Nat.add_comm]
  · rw [BitVec.toNat_mul]
  · simp at h1
  · rw [BitVec.toNat_or]
  · rw [BitVec.toNat_and]
  · rw [BitVec.toNat_shiftLeft, Nat.shiftLeft_eq]
  · rw [BitVec.toNat_ushiftRight, Nat.shiftRight_eq_div_pow]
  · rw [BitVec.toNat_sub]; simp
  · simp at h2
  · rw [BitVec.toNat_xor]
  · simp at h3

theorem val_op32 (k : Int) (hk : k ∈ ops) (ha : ¬ k ∈ ([48, 144, 192] : List Int)) (x y : W) (hx : x.toNat < 4294967296) (hy : y.toNat < 4294967296) : val k 32 x.toNat y.toNat = (lo (opb k (y.toNat % 32) x y)).toNat := by
  rw [lo_nat]
  simp only [ops, List.mem_cons, List.not_mem_nil, or_false, not_or] at hk ha
  obtain ⟨h1, h2, h3⟩ := ha
  rcases hk with rfl | rfl | rfl | rfl | rfl | rfl | rfl | rfl | rfl | rfl | rfl | rfl | rfl <;> simp only [val, opb, Int.reduceEq, if_true, if_false, Nat.reducePow] at *
  · rw [BitVec.toNat_add]; omega
  · rw [BitVec.toNat_sub]; omega
  · rw [BitVec.toNat_mul, Nat.mod_mod_of_dvd _ (by decide)]
  · simp at h1
  · have h : x.toNat ||| y.toNat < 2 ^ 32 := Nat.or_lt_two_pow hx hy
    rw [BitVec.toNat_or, Nat.mod_eq_of_lt h]
  · have h : x.toNat &&& y.toNat ≤ x.toNat := Nat.and_le_left
    rw [BitVec.toNat_and, Nat.mod_eq_of_lt (by omega)]
  · rw [BitVec.toNat_shiftLeft, Nat.shiftLeft_eq, Nat.mod_mod_of_dvd _ (by decide)]
  · have h : x.toNat / 2 ^ (y.toNat % 32) ≤ x.toNat := Nat.div_le_self _ _
    rw [BitVec.toNat_ushiftRight, Nat.shiftRight_eq_div_pow, Nat.mod_eq_of_lt (Nat.lt_of_le_of_lt h hx)]
  · rw [BitVec.toNat_sub]; simp; omega
  · simp at h2
  · have h : x.toNat ^^^ y.toNat < 2 ^ 32 := Nat.xor_lt_two_pow hx hy
    rw [BitVec.toNat_xor, Nat.mod_eq_of_lt h]
  · omega
  · simp at h3

/-- The two numbers that come to 'do': as they are, or their low halves. -/
def inp (w : Bool) (x : W) : W := if w then x else lo x
theorem mem_inp {w : Bool} {v m x : W} (h : Mem v m x) : Mem (inp w v) (inp w m) (inp w x) := by
  cases w with
  | true => exact h
  | false => exact and_mem _ h
theorem tidy_inp {w : Bool} {v m : W} (h : Tidy v m) : Tidy (inp w v) (inp w m) := by
  cases w with
  | true => exact h
  | false => exact and_tidy _ h
theorem res_inp (k : Int) (hk : k ∈ ops) (w : Bool) (x y : W) : (res k w x y).toNat = val k (if w then 64 else 32) (inp w x).toNat (inp w y).toNat := by
  rw [res_nat k hk]
  cases w with
  | true => rfl
  | false => simp only [inp, Bool.false_eq_true, if_false, lo_nat]
theorem res_op (k : Int) (hk : k ∈ ops) (w : Bool) (x y : W) (ha : ¬ k ∈ ([48, 144, 192] : List Int)) : res k w x y = inp w (opb k ((inp w y).toNat % (if w then 64 else 32)) (inp w x) (inp w y)) := by
  apply BitVec.eq_of_toNat_eq
  rw [res_inp k hk]
  cases w with
  | true => exact val_op64 k hk ha x y
  | false => exact val_op32 k hk ha (lo x) (lo y) (by rw [lo_nat]; omega) (by rw [lo_nat]; omega)
theorem res_lo (k : Int) (hk : k ∈ ops) (x y : W) : lo (res k false x y) = res k false x y := by
  apply BitVec.eq_of_toNat_eq
  have h := val_lt k hk 32 (x.toNat % 4294967296) (y.toNat % 4294967296) (by omega) (Nat.mod_lt _ (by decide)) (Nat.mod_lt _ (by decide))
  rw [lo_nat, res_nat k hk, if_neg (by decide)]
  exact Nat.mod_eq_of_lt h

theorem alu_const (k : Int) (hk : k ∈ ops) (w : Bool) (x y : W) : alu_Do.f k w (x.toNat : Int) (y.toNat : Int) = some (((res k w x y).toNat : Int), 0) := by
  rw [res_nat k hk]
  cases w with
  | true => rw [alu_Do64 k hk x.isLt y.isLt]; rfl
  | false => rw [alu_Do32 k hk]; rfl

theorem neg_any (w : Bool) (x y z : W) : res 128 w x y = res 128 w x z := by
  unfold res
  cases w <;> simp [val]
theorem mov_any (w : Bool) (x y z : W) : res 176 w x z = res 176 w y z := by
  unfold res
  cases w <;> simp [val]

/-- The heart: constants give constants, else 'do'. -/
theorem Do_core (k : Nat) (hk : 200 ≤ k) (x0 : Int) (hx0 : x0 ∈ ops) (w : Bool) (c : Bool) (av am bv bm : W) (ta : Tidy av am) (tb : Tidy bv bm) (ha : inp w av = av) (hma : inp w am = am) (hb : inp w bv = bv) (hmb : inp w bm = bm)
    (hc : c = true → bm = 0#64 ∧ (am = 0#64 ∨ x0 = 128 ∨ x0 = 176)) (hn : x0 = 128 → bv = av ∧ bm = am) :
    ∃ rv rm : W, tnum_Do.j3 k x0 w c (av.toNat : Int) (am.toNat : Int) (bv.toNat : Int) (bm.toNat : Int) = some ((rv.toNat : Int), (rm.toNat : Int), 0) ∧ Tidy rv rm ∧ inp w rv = rv ∧ inp w rm = rm ∧
      ∀ x y, Mem av am (inp w x) → (x0 ≠ 128 → Mem bv bm (inp w y)) → Mem rv rm (res x0 w x y) := by
  obtain ⟨k, rfl⟩ : ∃ q, k = q + 1 := ⟨k - 1, by omega⟩
  simp only [tnum_Do.j3]
  cases c with
  | true =>
    obtain ⟨hb0, ho⟩ := hc rfl
    rw [if_pos rfl, alu_const x0 hx0]
    simp only [Option.bind_some, tnum_Const.f]
    refine ⟨res x0 w av bv, 0#64, rfl, fun i h => ?_, ?_, ?_, fun x y hx hy => ?_⟩
    · rw [BitVec.getLsbD_zero] at h; cases h
    · cases w with
      | true => rfl
      | false => exact res_lo x0 hx0 av bv
    · cases w <;> rfl
    · have key : res x0 w x y = res x0 w av bv := by
        have r1 : ∀ p q : W, res x0 w p q = res x0 w (inp w p) (inp w q) := fun p q => by
          apply BitVec.eq_of_toNat_eq
          rw [res_inp x0 hx0, res_inp x0 hx0]
          cases w with
          | true => rfl
          | false => simp only [inp, Bool.false_eq_true, if_false, lo_nat, Nat.mod_mod]
        rw [r1 x y, r1 av bv, ha, hb]
        subst hb0
        rcases ho with ha0 | rfl | rfl
        · subst ha0
          rw [mem_const hx]
          by_cases h128 : x0 = 128
          · subst h128; exact neg_any w av _ _
          · rw [mem_const (hy h128)]
        · obtain ⟨_, h2⟩ := hn rfl
          subst h2
          rw [mem_const hx]
          exact neg_any w av _ _
        · rw [mem_const (hy (by decide))]
          exact mov_any w _ _ _
      rw [key]
      exact mem_self _ _
  | false =>
    obtain ⟨rv, rm, e, t, h⟩ := do_sound k (by omega) x0 hx0 w av am bv bm ta tb
    rw [if_neg (by decide), e]
    simp only [Option.bind_some]
    have hm : ∀ x y, Mem av am (inp w x) → (x0 ≠ 128 → Mem bv bm (inp w y)) → Mem (inp w rv) (inp w rm) (res x0 w x y) := fun x y hx hy => by
      by_cases hs : x0 ∈ ([48, 144, 192] : List Int)
      · have h128 : x0 ≠ 128 := by intro e; subst e; simp at hs
        have hh := h (inp w x) (inp w y) (res x0 w x y) hx (hy h128) (Or.inl hs)
        have := mem_inp (w := w) hh
        have e2 : inp w (res x0 w x y) = res x0 w x y := by
          cases w with
          | true => rfl
          | false => exact res_lo x0 hx0 x y
        rw [e2] at this
        exact this
      · rw [res_op x0 hx0 w x y hs]
        by_cases h128 : x0 = 128
        · subst h128
          obtain ⟨h1, h2⟩ := hn rfl
          subst h1 h2
          have hh := h (inp w x) (inp w x) (opb 128 ((inp w x).toNat % (if w then 64 else 32)) (inp w x) (inp w x)) hx hx (Or.inr rfl)
          exact mem_inp (w := w) hh
        · have hh := h (inp w x) (inp w y) _ hx (hy h128) (Or.inr rfl)
          exact mem_inp (w := w) hh
    cases w with
    | true =>
      rw [if_pos rfl]
      exact ⟨rv, rm, rfl, t, rfl, rfl, hm⟩
    | false =>
      rw [if_neg (by decide), f_cut]
      simp only [Option.bind_some]
      have ll : ∀ z : W, lo (lo z) = lo z := fun z => by
        apply BitVec.eq_of_toNat_eq
        rw [lo_nat, lo_nat, Nat.mod_mod]
      exact ⟨lo rv, lo rm, rfl, and_tidy _ t, ll rv, ll rm, hm⟩

/-- 'Do' of any two tnums holds what the operation makes of what they hold. -/
theorem Do_sound (k : Nat) (hk : 210 ≤ k) (x0 : Int) (hx0 : x0 ∈ ops) (w : Bool) (av am bv bm : W) :
    ∃ rv rm : W, tnum_Do.f k x0 w (av.toNat : Int) (am.toNat : Int) (bv.toNat : Int) (bm.toNat : Int) = some ((rv.toNat : Int), (rm.toNat : Int), 0) ∧ Tidy rv rm ∧ inp w rv = rv ∧ inp w rm = rm ∧
      ∀ x y, Mem av am x → Mem bv bm y → Mem rv rm (res x0 w x y) := by
  obtain ⟨k, rfl⟩ : ∃ q, k = q + 3 := ⟨k - 3, by omega⟩
  have ll : ∀ z : W, inp w (inp w z) = inp w z := fun z => by
    cases w with
    | true => rfl
    | false =>
      apply BitVec.eq_of_toNat_eq
      show (lo (lo z)).toNat = (lo z).toNat
      rw [lo_nat, lo_nat, Nat.mod_mod]
  have start : tnum_Do.f (k + 3) x0 w (av.toNat : Int) (am.toNat : Int) (bv.toNat : Int) (bm.toNat : Int) = tnum_Do.j0 (k + 3) x0 w ((inp w (av &&& ~~~am)).toNat : Int) ((inp w am).toNat : Int) ((inp w (bv &&& ~~~bm)).toNat : Int) ((inp w bm).toNat : Int) := by
    have h0 := alu_const x0 hx0 w 0#64 0#64
    rw [c_zero] at h0
    unfold tnum_Do.f
    rw [h0, f_tidy]
    simp only [Option.bind_some, if_true]
    rw [f_tidy]
    simp only [Option.bind_some]
    cases w with
    | true => rw [if_pos rfl]; rfl
    | false =>
      rw [if_neg (by decide), f_cut]
      simp only [Option.bind_some]
      rw [f_cut]
      rfl
  rw [start]
  have ta := tidy_inp (w := w) (tidy_andNot av am)
  have tb := tidy_inp (w := w) (tidy_andNot bv bm)
  have ia := ll (av &&& ~~~am); have ima := ll am; have ib := ll (bv &&& ~~~bm); have imb := ll bm
  have fin : ∀ {rv rm}, (∀ x y, Mem (inp w (av &&& ~~~am)) (inp w am) (inp w x) → (x0 ≠ 128 → Mem (inp w (bv &&& ~~~bm)) (inp w bm) (inp w y)) → Mem rv rm (res x0 w x y)) → ∀ x y, Mem av am x → Mem bv bm y → Mem rv rm (res x0 w x y) :=
    fun h x y hx hy => h x y (mem_inp (mem_andNot.2 hx)) (fun _ => mem_inp (mem_andNot.2 hy))
  generalize inp w (av &&& ~~~am) = a1 at *
  generalize inp w am = a2 at *
  generalize inp w (bv &&& ~~~bm) = b1 at *
  generalize inp w bm = b2 at *
  by_cases h128 : x0 = 128
  · subst h128
    simp only [tnum_Do.j0, tnum_Do.j1, if_true, tnum_Do.j2]
    by_cases hz : a2 = 0#64
    · subst hz
      rw [c_zero, if_pos rfl, if_pos rfl]
      obtain ⟨rv, rm, e, t, i1, i2, h⟩ := Do_core k (by omega) 128 hx0 w true a1 0#64 a1 0#64 ta ta ia ima ia ima (fun _ => ⟨rfl, Or.inl rfl⟩) (fun _ => ⟨rfl, rfl⟩)
      exact ⟨rv, rm, e, t, i1, i2, fin fun x y hx _ => h x y hx (fun hh => absurd rfl hh)⟩
    · rw [if_neg (fun e => hz ((c_eq0 a2).1 e))]
      obtain ⟨rv, rm, e, t, i1, i2, h⟩ := Do_core k (by omega) 128 hx0 w false a1 a2 a1 a2 ta ta ia ima ia ima (fun h => by cases h) (fun _ => ⟨rfl, rfl⟩)
      exact ⟨rv, rm, e, t, i1, i2, fin fun x y hx _ => h x y hx (fun hh => absurd rfl hh)⟩
  · simp only [tnum_Do.j0, if_neg h128, tnum_Do.j1, tnum_Do.j2]
    by_cases hz : b2 = 0#64
    · subst hz
      rw [c_zero, if_pos rfl]
      by_cases hy : a2 = 0#64
      · subst hy
        rw [c_zero, if_pos rfl]
        obtain ⟨rv, rm, e, t, i1, i2, h⟩ := Do_core k (by omega) x0 hx0 w true a1 0#64 b1 0#64 ta tb ia ima ib imb (fun _ => ⟨rfl, Or.inl rfl⟩) (fun hh => absurd hh h128)
        exact ⟨rv, rm, e, t, i1, i2, fin h⟩
      · rw [if_neg (fun e => hy ((c_eq0 a2).1 e))]
        obtain ⟨rv, rm, e, t, i1, i2, h⟩ := Do_core k (by omega) x0 hx0 w (x0 == 176) a1 a2 b1 0#64 ta tb ia ima ib imb (fun hh => ⟨rfl, Or.inr (Or.inr (by simpa using hh))⟩) (fun hh => absurd hh h128)
        exact ⟨rv, rm, e, t, i1, i2, fin h⟩
    · rw [if_neg (fun e => hz ((c_eq0 b2).1 e))]
      obtain ⟨rv, rm, e, t, i1, i2, h⟩ := Do_core k (by omega) x0 hx0 w false a1 a2 b1 b2 ta tb ia ima ib imb (fun hh => by cases hh) (fun hh => absurd hh h128)
      exact ⟨rv, rm, e, t, i1, i2, fin h⟩
theorem Do_not (k : Nat) (x0 : Int) (hx0 : x0 ∉ ops) (w : Bool) (a b c d : Int) : tnum_Do.f k x0 w a b c d = some (0, 0, 2) := by
  unfold tnum_Do.f
  rw [alu_Do_not x0 hx0]
  rfl
end Go.Proofs.Ytladlljnpmpdpaa.TnDoTnumBest
