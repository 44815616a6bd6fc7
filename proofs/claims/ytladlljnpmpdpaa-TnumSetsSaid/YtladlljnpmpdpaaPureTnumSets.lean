/- Plain: what tnums hold; when one lies within another; what joins and meets hold. -/
import Derived.Test.YtladlljnpmpdpaaPTnumSetsx
import Derived.Test.YtladlljnpmpdpaaBv
import Derived.Test.YtladlljnpmpdpaaTn
namespace Go.Proofs.Ytladlljnpmpdpaa.Pure
open Go.RowKit Go.Proofs.Ytladlljnpmpdpaa.PTnumSets Go.Proofs.YtladlljnpmpdpaaW.PrintWords Go.Proofs.YtladlljnpmpdpaaW.PrintLast Go.Proofs.YtladlljnpmpdpaaW.PrintMore
open Go.Proofs.Ytladlljnpmpdpaa.Bv Go.Proofs.Ytladlljnpmpdpaa.Tn
set_option linter.unusedVariables false
set_option linter.unusedSimpArgs false

namespace TnumSetsParts
/-- A number of the tnum, the unknown bits as c has them. -/
def mem (v m c : W) : W := (v &&& ~~~m) ||| (c &&& m)
def hasB (v m c : W) : Bool := decide ((v ^^^ c) &&& ~~~m = 0#64)
def inB (av am bv bm : W) : Bool := decide (am &&& ~~~bm = 0#64 ∧ (av ^^^ bv) &&& ~~~bm = 0#64)
def jM (av am bv bm : W) : W := (am ||| bm) ||| ((av &&& ~~~am) ^^^ (bv &&& ~~~bm))
def jV (av am bv bm : W) : W := (av &&& ~~~am) &&& ~~~(jM av am bv bm)
def okB (av am bv bm : W) : Bool := decide (((av &&& ~~~am) ^^^ (bv &&& ~~~bm)) &&& ~~~(am ||| bm) = 0#64)
theorem c_beq (a b : W) : ((a.toNat : Int) == (b.toNat : Int)) = decide (a = b) := by
  rw [Bool.eq_iff_iff, beq_iff_eq, decide_eq_true_eq]; exact c_eq a b
theorem c_beq0 (a : W) : ((a.toNat : Int) == 0) = decide (a = 0#64) := by
  rw [Bool.eq_iff_iff, beq_iff_eq, decide_eq_true_eq]; exact c_eq0 a
theorem f_Member (v m c : W) : posternref14_Member.f (v.toNat : Int) (m.toNat : Int) (c.toNat : Int) = some ((mem v m c).toNat : Int) := by
  unfold posternref14_Member.f mem
  rw [c_andNot, c_and, c_or]
theorem f_Has (v m c : W) : tnum_Has.f (v.toNat : Int) (m.toNat : Int) (c.toNat : Int) = some (hasB v m c) := by
  unfold tnum_Has.f hasB
  rw [c_xor, c_andNot, c_beq0]
theorem f_In (av am bv bm : W) : tnum_In.f (av.toNat : Int) (am.toNat : Int) (bv.toNat : Int) (bm.toNat : Int) = some (inB av am bv bm) := by
  unfold tnum_In.f inB
  rw [c_andNot, c_xor, c_andNot, c_beq0]
  by_cases h : am &&& ~~~bm = 0#64
  · rw [if_pos ((c_eq0 _).2 h)]; congr 1; rw [decide_eq_decide]; exact ⟨fun g => ⟨h, g⟩, fun g => g.2⟩
  · rw [if_neg (fun g => h ((c_eq0 _).1 g)), decide_eq_false (fun g => h g.1)]
theorem f_good (v m : W) : posternlaw14_good.f (v.toNat : Int) (m.toNat : Int) = some (decide (v &&& m = 0#64)) := by
  unfold posternlaw14_good.f
  rw [c_and, c_beq0]
theorem f_tidy (v m : W) : tnum_tidy.f (v.toNat : Int) (m.toNat : Int) = some (((v &&& ~~~m).toNat : Int), (m.toNat : Int)) := by
  unfold tnum_tidy.f
  rw [c_andNot]
theorem f_Join (av am bv bm : W) : tnum_Join.f (av.toNat : Int) (am.toNat : Int) (bv.toNat : Int) (bm.toNat : Int) = some (((jV av am bv bm).toNat : Int), ((jM av am bv bm).toNat : Int)) := by
  unfold tnum_Join.f
  rw [f_tidy, f_tidy, Option.bind_some, Option.bind_some]
  dsimp only
  rw [c_xor, c_or, c_or, c_andNot]
  rfl
theorem f_Meet (av am bv bm : W) : tnum_Meet.f (av.toNat : Int) (am.toNat : Int) (bv.toNat : Int) (bm.toNat : Int) =
    some (if okB av am bv bm then ((((av &&& ~~~am) ||| (bv &&& ~~~bm)).toNat : Int), ((am &&& bm).toNat : Int), true) else (0, 0, false)) := by
  unfold tnum_Meet.f okB
  rw [f_tidy, f_tidy, Option.bind_some, Option.bind_some]
  dsimp only
  rw [c_xor, c_or, c_andNot, c_or, c_and]
  by_cases h : ((av &&& ~~~am) ^^^ (bv &&& ~~~bm)) &&& ~~~(am ||| bm) = 0#64
  · rw [if_pos ((c_eq0 _).2 h), if_pos (decide_eq_true h)]
  · rw [if_neg (fun g => h ((c_eq0 _).1 g)), if_neg (by rw [decide_eq_false h]; decide)]
theorem best_step (k : Nat) (one zero v : W) (l : List Int) (hl : l.length = 4) (i : Nat) (hi : i < 4) (hr : rd l (i : Int) = (v.toNat : Int)) :
    posternref14_Best.l0 (k + 1) (one.toNat : Int) (zero.toNat : Int) l 4 (i : Int) = posternref14_Best.l0 k ((one &&& v).toNat : Int) ((zero &&& ~~~v).toNat : Int) l 4 ((i + 1 : Nat) : Int) := by
  rw [posternref14_Best.l0, if_pos (by omega), if_pos (by omega), if_pos (by omega), hr, c_not, c_and, c_and, show wrap64 ((i : Int) + 1) = ((i + 1 : Nat) : Int) by unfold wrap64; omega]
def ones4 (a b c d : W) : W := (((BitVec.allOnes 64 &&& a) &&& b) &&& c) &&& d
def zeros4 (a b c d : W) : W := (((BitVec.allOnes 64 &&& ~~~a) &&& ~~~b) &&& ~~~c) &&& ~~~d
theorem f_Best (k : Nat) (a b c d : W) : posternref14_Best.f (k + 5) [(a.toNat : Int), (b.toNat : Int), (c.toNat : Int), (d.toNat : Int)] =
    some (((ones4 a b c d).toNat : Int), (((~~~(ones4 a b c d)) &&& ~~~(zeros4 a b c d)).toNat : Int)) := by
  have e1 : (18446744073709551615 : Int) = ((BitVec.allOnes 64).toNat : Int) := by decide
  have h0 := best_step (k + 4) (BitVec.allOnes 64) (BitVec.allOnes 64) a [(a.toNat : Int), (b.toNat : Int), (c.toNat : Int), (d.toNat : Int)] rfl 0 (by omega) rfl
  have h1 := best_step (k + 3) (BitVec.allOnes 64 &&& a) (BitVec.allOnes 64 &&& ~~~a) b [(a.toNat : Int), (b.toNat : Int), (c.toNat : Int), (d.toNat : Int)] rfl 1 (by omega) rfl
  have h2 := best_step (k + 2) ((BitVec.allOnes 64 &&& a) &&& b) ((BitVec.allOnes 64 &&& ~~~a) &&& ~~~b) c [(a.toNat : Int), (b.toNat : Int), (c.toNat : Int), (d.toNat : Int)] rfl 2 (by omega) rfl
  have h3 := best_step (k + 1) (((BitVec.allOnes 64 &&& a) &&& b) &&& c) (((BitVec.allOnes 64 &&& ~~~a) &&& ~~~b) &&& ~~~c) d [(a.toNat : Int), (b.toNat : Int), (c.toNat : Int), (d.toNat : Int)] rfl 3 (by omega) rfl
  unfold posternref14_Best.f
  refine Eq.trans ?_ (h0.trans (h1.trans (h2.trans (h3.trans ?_))))
  · rw [e1]; rfl
  · rw [posternref14_Best.l0, if_neg (by omega), c_not, c_not, c_and]
    rfl

/-! ### Bit by bit -/
theorem zero_iff {x : W} : x = 0#64 ↔ ∀ i, i < 64 → x.getLsbD i = false :=
  ⟨fun h i _ => by rw [h]; exact BitVec.getLsbD_zero, fun h => eq_of_bits fun i hi => by rw [h i hi]; exact BitVec.getLsbD_zero.symm⟩
theorem eq_iff {x y : W} : x = y ↔ ∀ i, i < 64 → x.getLsbD i = y.getLsbD i := ⟨fun h i _ => by rw [h], fun h => eq_of_bits h⟩
theorem all_congr {p q : Nat → Prop} (h : ∀ i, i < 64 → (p i ↔ q i)) : (∀ i, i < 64 → p i) ↔ ∀ i, i < 64 → q i := ⟨fun g i hi => (h i hi).1 (g i hi), fun g i hi => (h i hi).2 (g i hi)⟩

theorem has_mem (v m c : W) : hasB v m (mem v m c) = true := decide_eq_true (zero_iff.2 fun i hi => by
  simp only [mem, BitVec.getLsbD_or, BitVec.getLsbD_and, BitVec.getLsbD_xor, not_bit hi]
  generalize v.getLsbD i = p; generalize m.getLsbD i = q; generalize c.getLsbD i = r
  revert p q r; decide)
theorem has_iff (v m c : W) : hasB v m c = decide (mem v m c = c) := by
  unfold hasB
  rw [decide_eq_decide, zero_iff, eq_iff]
  refine all_congr fun i hi => ?_
  simp only [mem, BitVec.getLsbD_or, BitVec.getLsbD_and, BitVec.getLsbD_xor, not_bit hi]
  generalize v.getLsbD i = p; generalize m.getLsbD i = q; generalize c.getLsbD i = r
  revert p q r; decide
theorem has_any (c : W) : hasB 0#64 (BitVec.allOnes 64) c = true := decide_eq_true (zero_iff.2 fun i hi => by
  simp only [BitVec.getLsbD_and, not_bit hi, BitVec.getLsbD_allOnes, hi, decide_true, Bool.not_true, Bool.and_false])
theorem has_const (c : W) : hasB c 0#64 c = true := decide_eq_true (by rw [BitVec.xor_self]; exact BitVec.zero_and)
theorem has_next (c : W) : hasB c 0#64 (c + 1#64) = false := decide_eq_false fun h => by
  have h2 : c = c + 1#64 := eq_iff.2 fun i hi => by
    have := zero_iff.1 h i hi
    simp only [BitVec.getLsbD_and, BitVec.getLsbD_xor, not_bit hi, BitVec.getLsbD_zero, Bool.not_false, Bool.and_true] at this
    revert this
    generalize c.getLsbD i = p; generalize (c + 1#64).getLsbD i = q
    revert p q; decide
  have h3 := congrArg BitVec.toNat h2
  rw [BitVec.toNat_add] at h3
  have := lt c
  have e : (1#64).toNat = 1 := rfl
  rw [e] at h3
  omega
theorem in_iff (av am bv bm c : W) (h : am &&& ~~~bm = 0#64) : inB av am bv bm = decide (mem bv bm (mem av am c) = mem av am c) := by
  unfold inB
  rw [decide_eq_decide]
  refine Iff.trans ⟨fun g => g.2, fun g => ⟨h, g⟩⟩ ?_
  rw [zero_iff, eq_iff]
  refine all_congr fun i hi => ?_
  have := zero_iff.1 h i hi
  simp only [mem, BitVec.getLsbD_or, BitVec.getLsbD_and, BitVec.getLsbD_xor, not_bit hi] at this ⊢
  revert this
  generalize av.getLsbD i = p; generalize am.getLsbD i = q; generalize c.getLsbD i = r; generalize bv.getLsbD i = s; generalize bm.getLsbD i = t
  revert p q r s t; decide
theorem in_join_l (av am bv bm : W) : inB av am (jV av am bv bm) (jM av am bv bm) = true := decide_eq_true ⟨zero_iff.2 fun i hi => by
    simp only [jM, BitVec.getLsbD_or, BitVec.getLsbD_and, BitVec.getLsbD_xor, not_bit hi]
    generalize av.getLsbD i = p; generalize am.getLsbD i = q; generalize bv.getLsbD i = s; generalize bm.getLsbD i = t
    revert p q s t; decide, zero_iff.2 fun i hi => by
    simp only [jV, jM, BitVec.getLsbD_or, BitVec.getLsbD_and, BitVec.getLsbD_xor, not_bit hi]
    generalize av.getLsbD i = p; generalize am.getLsbD i = q; generalize bv.getLsbD i = s; generalize bm.getLsbD i = t
    revert p q s t; decide⟩
theorem in_join_r (av am bv bm : W) : inB bv bm (jV av am bv bm) (jM av am bv bm) = true := decide_eq_true ⟨zero_iff.2 fun i hi => by
    simp only [jM, BitVec.getLsbD_or, BitVec.getLsbD_and, BitVec.getLsbD_xor, not_bit hi]
    generalize av.getLsbD i = p; generalize am.getLsbD i = q; generalize bv.getLsbD i = s; generalize bm.getLsbD i = t
    revert p q s t; decide, zero_iff.2 fun i hi => by
    simp only [jV, jM, BitVec.getLsbD_or, BitVec.getLsbD_and, BitVec.getLsbD_xor, not_bit hi]
    generalize av.getLsbD i = p; generalize am.getLsbD i = q; generalize bv.getLsbD i = s; generalize bm.getLsbD i = t
    revert p q s t; decide⟩
theorem good_join (av am bv bm : W) : jV av am bv bm &&& jM av am bv bm = 0#64 := zero_iff.2 fun i hi => by
  simp only [jV, BitVec.getLsbD_and, not_bit hi]
  generalize (jM av am bv bm).getLsbD i = p; generalize av.getLsbD i = q; generalize am.getLsbD i = r
  revert p q r; decide
theorem good_meet (av am bv bm : W) : ((av &&& ~~~am) ||| (bv &&& ~~~bm)) &&& (am &&& bm) = 0#64 := zero_iff.2 fun i hi => by
  simp only [BitVec.getLsbD_or, BitVec.getLsbD_and, not_bit hi]
  generalize av.getLsbD i = p; generalize am.getLsbD i = q; generalize bv.getLsbD i = s; generalize bm.getLsbD i = t
  revert p q s t; decide
theorem has_join_l (av am bv bm c : W) : hasB (jV av am bv bm) (jM av am bv bm) (mem av am c) = true := decide_eq_true (zero_iff.2 fun i hi => by
  simp only [mem, jV, jM, BitVec.getLsbD_or, BitVec.getLsbD_and, BitVec.getLsbD_xor, not_bit hi]
  generalize av.getLsbD i = p; generalize am.getLsbD i = q; generalize bv.getLsbD i = s; generalize bm.getLsbD i = t; generalize c.getLsbD i = r
  revert p q s t r; decide)
theorem has_join_r (av am bv bm c : W) : hasB (jV av am bv bm) (jM av am bv bm) (mem bv bm c) = true := decide_eq_true (zero_iff.2 fun i hi => by
  simp only [mem, jV, jM, BitVec.getLsbD_or, BitVec.getLsbD_and, BitVec.getLsbD_xor, not_bit hi]
  generalize av.getLsbD i = p; generalize am.getLsbD i = q; generalize bv.getLsbD i = s; generalize bm.getLsbD i = t; generalize c.getLsbD i = r
  revert p q s t r; decide)
theorem best_v (av am bv bm : W) : ones4 (mem av am 0#64) (mem av am (BitVec.allOnes 64)) (mem bv bm 0#64) (mem bv bm (BitVec.allOnes 64)) = jV av am bv bm := eq_iff.2 fun i hi => by
  simp only [ones4, mem, jV, jM, BitVec.getLsbD_or, BitVec.getLsbD_and, BitVec.getLsbD_xor, not_bit hi, BitVec.getLsbD_allOnes, BitVec.getLsbD_zero, hi, decide_true]
  generalize av.getLsbD i = p; generalize am.getLsbD i = q; generalize bv.getLsbD i = s; generalize bm.getLsbD i = t
  revert p q s t; decide
theorem best_m (av am bv bm : W) : (~~~(ones4 (mem av am 0#64) (mem av am (BitVec.allOnes 64)) (mem bv bm 0#64) (mem bv bm (BitVec.allOnes 64)))) &&& ~~~(zeros4 (mem av am 0#64) (mem av am (BitVec.allOnes 64)) (mem bv bm 0#64) (mem bv bm (BitVec.allOnes 64))) = jM av am bv bm := eq_iff.2 fun i hi => by
  simp only [ones4, zeros4, mem, jM, BitVec.getLsbD_or, BitVec.getLsbD_and, BitVec.getLsbD_xor, not_bit hi, BitVec.getLsbD_allOnes, BitVec.getLsbD_zero, hi, decide_true]
  generalize av.getLsbD i = p; generalize am.getLsbD i = q; generalize bv.getLsbD i = s; generalize bm.getLsbD i = t
  revert p q s t; decide
theorem meets_iff (av am bv bm : W) : okB av am bv bm = decide (((mem av am 0#64 ^^^ mem bv bm 0#64) &&& ~~~am) &&& ~~~bm = 0#64) := by
  unfold okB
  rw [decide_eq_decide, zero_iff, zero_iff]
  refine all_congr fun i hi => ?_
  simp only [mem, BitVec.getLsbD_or, BitVec.getLsbD_and, BitVec.getLsbD_xor, not_bit hi, BitVec.getLsbD_zero]
  generalize av.getLsbD i = p; generalize am.getLsbD i = q; generalize bv.getLsbD i = s; generalize bm.getLsbD i = t
  revert p q s t; decide
theorem has_meet (av am bv bm c : W) (h : okB av am bv bm = true) : hasB ((av &&& ~~~am) ||| (bv &&& ~~~bm)) (am &&& bm) c = (hasB av am c && hasB bv bm c) := by
  have h := of_decide_eq_true h
  have e : (hasB av am c && hasB bv bm c) = decide ((av ^^^ c) &&& ~~~am = 0#64 ∧ (bv ^^^ c) &&& ~~~bm = 0#64) := by
    unfold hasB
    rw [Bool.eq_iff_iff]; simp
  rw [e]
  unfold hasB
  rw [decide_eq_decide, zero_iff, zero_iff, zero_iff]
  refine Iff.trans (all_congr (q := fun i => ((av ^^^ c) &&& ~~~am).getLsbD i = false ∧ ((bv ^^^ c) &&& ~~~bm).getLsbD i = false) fun i hi => ?_) ⟨fun g => ⟨fun i hi => (g i hi).1, fun i hi => (g i hi).2⟩, fun g i hi => ⟨g.1 i hi, g.2 i hi⟩⟩
  have := zero_iff.1 h i hi
  simp only [BitVec.getLsbD_or, BitVec.getLsbD_and, BitVec.getLsbD_xor, not_bit hi] at this ⊢
  revert this
  generalize av.getLsbD i = p; generalize am.getLsbD i = q; generalize bv.getLsbD i = s; generalize bm.getLsbD i = t; generalize c.getLsbD i = r
  revert p q s t r; decide
theorem in_meet_l (av am bv bm : W) (h : okB av am bv bm = true) : inB ((av &&& ~~~am) ||| (bv &&& ~~~bm)) (am &&& bm) av am = true := by
  have h := of_decide_eq_true h
  refine decide_eq_true ⟨zero_iff.2 fun i hi => ?_, zero_iff.2 fun i hi => ?_⟩
  all_goals
    have := zero_iff.1 h i hi
    simp only [BitVec.getLsbD_or, BitVec.getLsbD_and, BitVec.getLsbD_xor, not_bit hi] at this ⊢
    revert this
    generalize av.getLsbD i = p; generalize am.getLsbD i = q; generalize bv.getLsbD i = s; generalize bm.getLsbD i = t
    revert p q s t; decide
theorem in_meet_r (av am bv bm : W) (h : okB av am bv bm = true) : inB ((av &&& ~~~am) ||| (bv &&& ~~~bm)) (am &&& bm) bv bm = true := by
  have h := of_decide_eq_true h
  refine decide_eq_true ⟨zero_iff.2 fun i hi => ?_, zero_iff.2 fun i hi => ?_⟩
  all_goals
    have := zero_iff.1 h i hi
    simp only [BitVec.getLsbD_or, BitVec.getLsbD_and, BitVec.getLsbD_xor, not_bit hi] at this ⊢
    revert this
    generalize av.getLsbD i = p; generalize am.getLsbD i = q; generalize bv.getLsbD i = s; generalize bm.getLsbD i = t
    revert p q s t; decide

/-! ### The law, step by step -/
theorem j3_ (k : Nat) (av am bv bm c : W) (h : okB av am bv bm = true) :
    posternlaw14_TnumSets.j3 (k + 1) (c.toNat : Int) true false (av.toNat : Int) (am.toNat : Int) (bv.toNat : Int) (bm.toNat : Int) (((av &&& ~~~am) ||| (bv &&& ~~~bm)).toNat : Int) ((am &&& bm).toNat : Int) = some true := by
  rw [posternlaw14_TnumSets.j3, if_neg (by decide), if_pos rfl, f_Has, f_Has, f_Has, f_In, f_In, Option.bind_some, Option.bind_some, has_meet av am bv bm c h, in_meet_l av am bv bm h, in_meet_r av am bv bm h, c_and]
  cases hasB av am c <;> cases hasB bv bm c <;> simp
theorem j2_ (k : Nat) (av am bv bm c : W) (mv mm : Int) (hm : (mv, mm, okB av am bv bm) = if okB av am bv bm then ((((av &&& ~~~am) ||| (bv &&& ~~~bm)).toNat : Int), ((am &&& bm).toNat : Int), true) else (0, 0, false)) :
    posternlaw14_TnumSets.j2 (k + 6) (c.toNat : Int) (okB av am bv bm) false (av.toNat : Int) (am.toNat : Int) (bv.toNat : Int) (bm.toNat : Int) ((jV av am bv bm).toNat : Int) ((jM av am bv bm).toNat : Int) mv mm = some true := by
  have e0 : (0 : Int) = ((0#64).toNat : Int) := rfl
  have e1 : (18446744073709551615 : Int) = ((BitVec.allOnes 64).toNat : Int) := by decide
  have m0 : ∀ v m : W, posternref14_Member.f (v.toNat : Int) (m.toNat : Int) 0 = some ((mem v m 0#64).toNat : Int) := fun v m => f_Member v m 0#64
  have m1 : ∀ v m : W, posternref14_Member.f (v.toNat : Int) (m.toNat : Int) 18446744073709551615 = some ((mem v m (BitVec.allOnes 64)).toNat : Int) := fun v m => by rw [e1]; exact f_Member v m _
  rw [posternlaw14_TnumSets.j2, if_neg (by decide), m0, m1, m0, m1]
  simp only [Option.bind_some]
  rw [f_Best k, best_m, best_v]
  simp only [Option.bind_some]
  rw [if_neg (by simp), c_xor, c_andNot, c_andNot, c_beq0, ← meets_iff, if_neg (by simp)]
  by_cases h : okB av am bv bm = true
  · rw [if_pos h]
    rw [if_pos h] at hm
    simp only [Prod.mk.injEq] at hm
    obtain ⟨rfl, rfl, _⟩ := hm
    rw [h]
    exact j3_ (k + 4) av am bv bm c h
  · rw [if_neg h]
    rw [if_neg h] at hm
    simp only [Prod.mk.injEq] at hm
    obtain ⟨rfl, rfl, hf⟩ := hm
    rw [hf, posternlaw14_TnumSets.j3, if_neg (by decide), if_neg (by decide)]
theorem j1_ (k : Nat) (av am bv bm c : W) :
    posternlaw14_TnumSets.j1 (k + 7) (c.toNat : Int) ((mem av am c).toNat : Int) ((mem bv bm c).toNat : Int) (inB av am bv bm) (av.toNat : Int) (am.toNat : Int) (bv.toNat : Int) (bm.toNat : Int) = some true := by
  obtain ⟨mv, mm, e, hm⟩ : ∃ mv mm, tnum_Meet.f (av.toNat : Int) (am.toNat : Int) (bv.toNat : Int) (bm.toNat : Int) = some (mv, mm, okB av am bv bm) ∧ (mv, mm, okB av am bv bm) = if okB av am bv bm then ((((av &&& ~~~am) ||| (bv &&& ~~~bm)).toNat : Int), ((am &&& bm).toNat : Int), true) else (0, 0, false) := by
    rw [f_Meet]
    by_cases h : okB av am bv bm = true
    · rw [if_pos h, h]; exact ⟨_, _, rfl, rfl⟩
    · rw [if_neg h, Bool.not_eq_true _ |>.mp h]; exact ⟨_, _, rfl, rfl⟩
  have hg : posternlaw14_good.f mv mm = some true := by
    by_cases h : okB av am bv bm = true
    · rw [if_pos h] at hm
      simp only [Prod.mk.injEq] at hm
      obtain ⟨rfl, rfl, _⟩ := hm
      rw [f_good, decide_eq_true (good_meet av am bv bm)]
    · rw [if_neg h] at hm
      simp only [Prod.mk.injEq] at hm
      obtain ⟨rfl, rfl, _⟩ := hm
      decide
  rw [posternlaw14_TnumSets.j1, f_Join, e, f_In]
  simp only [Option.bind_some]
  rw [if_neg (by simp), f_In, in_join_l]
  simp only [Option.bind_some, if_true]
  rw [f_In, in_join_r]
  simp only [Option.bind_some, if_true]
  rw [f_good, decide_eq_true (good_join av am bv bm)]
  simp only [Option.bind_some, if_true]
  rw [hg]
  simp only [Option.bind_some, if_true]
  rw [f_Has, has_join_l]
  simp only [Option.bind_some, if_true]
  rw [f_Has, has_join_r]
  simp only [Option.bind_some, Bool.not_true]
  exact j2_ k av am bv bm c mv mm hm
theorem j0_ (k : Nat) (av am bv bm c : W) :
    posternlaw14_TnumSets.j0 (k + 8) (c.toNat : Int) ((mem av am c).toNat : Int) ((mem bv bm c).toNat : Int) false (av.toNat : Int) (am.toNat : Int) (bv.toNat : Int) (bm.toNat : Int) = some true := by
  rw [posternlaw14_TnumSets.j0, if_neg (by decide), c_andNot]
  by_cases h : am &&& ~~~bm = 0#64
  · rw [if_pos ((c_eq0 _).2 h), f_Member, Option.bind_some, c_beq, ← in_iff av am bv bm c h]
    exact j1_ k av am bv bm c
  · rw [if_neg (fun g => h ((c_eq0 _).1 g))]
    have hf : inB av am bv bm = false := decide_eq_false fun g => h g.1
    have := j1_ k av am bv bm c
    rw [hf] at this
    exact this
end TnumSetsParts
open TnumSetsParts

theorem first_true : posternlaw14_first.f 300 = some true := by decide +kernel

theorem TnumSets (a0 a1 a2 a3 a4 : Int) (w0 : (Lit.int .u64 a0).wf = true) (w1 : (Lit.int .u64 a1).wf = true) (w2 : (Lit.int .u64 a2).wf = true) (w3 : (Lit.int .u64 a3).wf = true) (w4 : (Lit.int .u64 a4).wf = true) :
    ∃ k, posternlaw14_TnumSets.f k a0 a1 a2 a3 a4 = some true := by
  obtain ⟨av, rfl⟩ := bv_of w0
  obtain ⟨am, rfl⟩ := bv_of w1
  obtain ⟨bv, rfl⟩ := bv_of w2
  obtain ⟨bm, rfl⟩ := bv_of w3
  obtain ⟨c, rfl⟩ := bv_of w4
  refine ⟨300, ?_⟩
  have hany : tnum_Has.f 0 18446744073709551615 (c.toNat : Int) = some true := by
    have h := f_Has 0#64 (BitVec.allOnes 64) c
    rw [has_any] at h
    exact h
  have hc : tnum_Has.f (c.toNat : Int) 0 (c.toNat : Int) = some true := by
    have h := f_Has c 0#64 c
    rw [has_const] at h
    exact h
  have hn : tnum_Has.f (c.toNat : Int) 0 (IntKind.u64.wrap ((c.toNat : Int) + 1)) = some false := by
    have e : IntKind.u64.wrap ((c.toNat : Int) + 1) = ((c + 1#64).toNat : Int) := c_add c 1#64
    have h := f_Has c 0#64 (c + 1#64)
    rw [has_next] at h
    rw [e]
    exact h
  unfold posternlaw14_TnumSets.f
  rw [first_true, Option.bind_some, if_pos rfl, f_Member, f_Member, Option.bind_some, Option.bind_some, f_Has, has_mem, Option.bind_some, if_pos rfl]
  simp only [tnum_Any.f, tnum_Const.f, Option.bind_some]
  rw [hany, hc, hn]
  simp only [Option.bind_some, if_true, Bool.false_eq_true, if_false]
  rw [f_Has, Option.bind_some, has_iff, c_beq, bne_self_eq_false]
  exact j0_ 292 av am bv bm c
end Go.Proofs.Ytladlljnpmpdpaa.Pure
