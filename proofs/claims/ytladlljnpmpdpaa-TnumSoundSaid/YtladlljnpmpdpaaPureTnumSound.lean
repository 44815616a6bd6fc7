/- Plain: an operation's tnum holds whatever the operation makes of numbers that the two tnums hold. -/
import Derived.Test.YtladlljnpmpdpaaPTnumSoundx
import Derived.Test.YtladlljnpmpdpaaTnDoTnumSound
namespace Go.Proofs.Ytladlljnpmpdpaa.Pure
open Go.RowKit Go.Proofs.Ytladlljnpmpdpaa.PTnumSound Go.Proofs.YtladlljnpmpdpaaW.PrintWords Go.Proofs.YtladlljnpmpdpaaW.PrintLast Go.Proofs.YtladlljnpmpdpaaW.PrintMore
open Go.Proofs.Ytladlljnpmpdpaa.Num Go.Proofs.Ytladlljnpmpdpaa.DoTnumSound Go.Proofs.Ytladlljnpmpdpaa.Bv Go.Proofs.Ytladlljnpmpdpaa.Tn Go.Proofs.Ytladlljnpmpdpaa.TnDoTnumSound

namespace TnumSoundParts
theorem f_member (v m c : W) : posternref14_Member.f (v.toNat : Int) (m.toNat : Int) (c.toNat : Int) = some ((((v &&& ~~~m) ||| (c &&& m)).toNat : Int)) := by
  simp only [posternref14_Member.f, c_andNot, c_and, c_or]
theorem mem_member (v m c : W) : Mem v m ((v &&& ~~~m) ||| (c &&& m)) := fun i hm => by
  rw [BitVec.getLsbD_or, BitVec.getLsbD_and, BitVec.getLsbD_and, BitVec.getLsbD_not, hm]
  by_cases hi : i < 64
  · simp [hi]
  · rw [BitVec.getLsbD_of_ge v i (by omega)]; simp
theorem f_has {v m x : W} (h : Mem v m x) : tnum_Has.f (v.toNat : Int) (m.toNat : Int) (x.toNat : Int) = some true := by
  simp only [tnum_Has.f, c_xor, c_andNot]
  have : (v ^^^ x) &&& ~~~m = 0#64 := eq_of_bits fun i hi => by
    rw [BitVec.getLsbD_and, BitVec.getLsbD_xor, not_bit hi, BitVec.getLsbD_zero]
    cases hm : m.getLsbD i with
    | true => simp
    | false => rw [h i hm]; simp
  rw [this]; rfl
theorem f_good {v m : W} (h : Tidy v m) : posternlaw14_good.f (v.toNat : Int) (m.toNat : Int) = some true := by
  simp only [posternlaw14_good.f, c_and]
  have : v &&& m = 0#64 := eq_of_bits fun i _ => by
    rw [BitVec.getLsbD_and, BitVec.getLsbD_zero]
    cases hm : m.getLsbD i with
    | false => simp
    | true => rw [h i hm]; rfl
  rw [this]; rfl
theorem ref_res (k : Nat) (hk : 210 ≤ k) (x0 : Int) (hx : x0 ∈ ops) (w : Bool) (x y : W) : posternref05_Do.f k x0 (if w then 64 else 32) (x.toNat : Int) (y.toNat : Int) = some (((res x0 w x y).toNat : Int), true) := by
  rw [res_nat x0 hx]
  cases w with
  | true => rw [if_pos rfl, ref_Do64 k hk x0 hx x.isLt y.isLt]; rfl
  | false => rw [if_neg (by decide), ref_Do32 k hk x0 hx]; rfl
theorem high_zero {v m : W} (h1 : inp false v = v) (h2 : inp false m = m) : (Go.bits .or .u64 (v.toNat : Int) (m.toNat : Int)) / 4294967296 = 0 := by
  have a1 : v.toNat < 2 ^ 32 := by rw [← h1]; show (lo v).toNat < _; rw [lo_nat]; omega
  have a2 : m.toNat < 2 ^ 32 := by rw [← h2]; show (lo m).toNat < _; rw [lo_nat]; omega
  have a3 : v.toNat ||| m.toNat < 2 ^ 32 := Nat.or_lt_two_pow a1 a2
  rw [c_or, BitVec.toNat_or]
  omega
theorem law_turn (k : Nat) (hk : 230 ≤ k) (x0 : Int) (w : Bool) (i : Int) (hi : (w = true ∧ i = 0) ∨ (w = false ∧ i = 1)) (av am bv bm c d : W) :
    posternlaw14_TnumSound.l0 (k + 1) x0 [true, false] 2 i (av.toNat : Int) (am.toNat : Int) (bv.toNat : Int) (bm.toNat : Int) (c.toNat : Int) (d.toNat : Int) = posternlaw14_TnumSound.l0 k x0 [true, false] 2 (i + 1) (av.toNat : Int) (am.toNat : Int) (bv.toNat : Int) (bm.toNat : Int) (c.toNat : Int) (d.toNat : Int) := by
  have hr : rdOf false ([true, false] : List Bool) i = w := by rcases hi with ⟨rfl, rfl⟩ | ⟨rfl, rfl⟩ <;> rfl
  have h1 : i < 2 := by omega
  have h0 : 0 ≤ i := by omega
  have hs : posternlaw14_size.f w = some (if w then 64 else 32) := by cases w <;> rfl
  have hw : wrap64 (i + 1) = i + 1 := by unfold wrap64; omega
  rw [posternlaw14_TnumSound.l0, if_pos h1, if_pos h0, if_pos (show i < ((List.length [true, false] : Nat) : Int) from h1), hr, hs, hw]
  by_cases hx : x0 ∈ ops
  · obtain ⟨rv, rm, e, t, i1, i2, h⟩ := Do_sound k (by omega) x0 hx w av am bv bm
    rw [e, f_member, f_member]
    simp only [Option.bind_some]
    rw [ref_res k (by omega) x0 hx w]
    simp only [Option.bind_some, if_true]
    rw [f_good t, f_has (h _ _ (mem_member av am c) (mem_member bv bm d))]
    simp only [Option.bind_some, if_true]
    cases w with
    | true => rw [if_pos rfl]
    | false => rw [if_neg (by decide), if_pos (high_zero i1 i2)]
  · rw [Do_not k x0 hx, f_member, f_member]
    simp only [Option.bind_some]
    rw [ref_not k (by omega) x0 _ _ _ hx]
    simp
end TnumSoundParts
open TnumSoundParts

theorem first_true : posternlaw14_first.f 300 = some true := by decide +kernel

theorem TnumSound (a0 a1 a2 a3 a4 a5 a6 : Int) (_ : (Lit.int .i64 a0).wf = true) (w1 : (Lit.int .u64 a1).wf = true) (w2 : (Lit.int .u64 a2).wf = true) (w3 : (Lit.int .u64 a3).wf = true) (w4 : (Lit.int .u64 a4).wf = true) (w5 : (Lit.int .u64 a5).wf = true) (w6 : (Lit.int .u64 a6).wf = true) :
    ∃ k, posternlaw14_TnumSound.f k a0 a1 a2 a3 a4 a5 a6 = some true := by
  obtain ⟨av, rfl⟩ := bv_of w1
  obtain ⟨am, rfl⟩ := bv_of w2
  obtain ⟨bv, rfl⟩ := bv_of w3
  obtain ⟨bm, rfl⟩ := bv_of w4
  obtain ⟨c, rfl⟩ := bv_of w5
  obtain ⟨d, rfl⟩ := bv_of w6
  refine ⟨300, ?_⟩
  unfold posternlaw14_TnumSound.f
  rw [first_true]
  simp only [Option.bind_some, if_true]
  refine (law_turn 299 (by omega) a0 true 0 (Or.inl ⟨rfl, rfl⟩) av am bv bm c d).trans ((law_turn 298 (by omega) a0 false (0 + 1) (Or.inr ⟨rfl, rfl⟩) av am bv bm c d).trans ?_)
  rw [posternlaw14_TnumSound.l0, if_neg (by decide)]

end Go.Proofs.Ytladlljnpmpdpaa.Pure
