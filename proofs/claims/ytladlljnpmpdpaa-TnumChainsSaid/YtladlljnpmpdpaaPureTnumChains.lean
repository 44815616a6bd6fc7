/- Plain: whole rows of operations, in tnums, hold what the rows make of numbers that the first ones hold. -/
import Derived.Test.YtladlljnpmpdpaaPTnumChainsx
import Derived.Test.YtladlljnpmpdpaaTnDoTnumChains
namespace Go.Proofs.Ytladlljnpmpdpaa.Pure
open Go.RowKit Go.Proofs.Ytladlljnpmpdpaa.PTnumChains Go.Proofs.YtladlljnpmpdpaaW.PrintWords Go.Proofs.YtladlljnpmpdpaaW.PrintLast Go.Proofs.YtladlljnpmpdpaaW.PrintMore
open Go.Proofs.Ytladlljnpmpdpaa.Num Go.Proofs.Ytladlljnpmpdpaa.DoTnumChains Go.Proofs.Ytladlljnpmpdpaa.Bv Go.Proofs.Ytladlljnpmpdpaa.Tn Go.Proofs.Ytladlljnpmpdpaa.TnDoTnumChains

namespace TnumChainsParts
theorem f_member (v m c : W) : posternref14_Member.f (v.toNat : Int) (m.toNat : Int) (c.toNat : Int) = some ((((v &&& ~~~m) ||| (c &&& m)).toNat : Int)) := by
  simp only [posternref14_Member.f, c_andNot, c_and, c_or]
theorem mem_member (v m c : W) : Mem v m ((v &&& ~~~m) ||| (c &&& m)) := fun i hm => by
  rw [BitVec.getLsbD_or, BitVec.getLsbD_and, BitVec.getLsbD_and, BitVec.getLsbD_not, hm]
  by_cases hi : i < 64
  · simp [hi]
  · rw [BitVec.getLsbD_of_ge v i (by omega)]; simp
theorem f_has {v m x : W} (h : Mem v m x) : tnum_Has.f (v.toNat : Int) (m.toNat : Int) (x.toNat : Int) = some true := by
  simp only [tnum_Has.f, c_xor, c_andNot]
  have : (v ^^^ x) &&& ~~~m = 0#64 := eq_of_bits fun i hi => by
    rw [BitVec.getLsbD_and, BitVec.getLsbD_xor, not_bit hi, BitVec.getLsbD_zero]
    cases hm : m.getLsbD i with
    | true => simp
    | false => rw [h i hm]; simp
  rw [this]; rfl
theorem ref_res (k : Nat) (hk : 210 ≤ k) (x0 : Int) (hx : x0 ∈ ops) (w : Bool) (x y : W) : posternref05_Do.f k x0 (if w then 64 else 32) (x.toNat : Int) (y.toNat : Int) = some (((res x0 w x y).toNat : Int), true) := by
  rw [res_nat x0 hx]
  cases w with
  | true => rw [if_pos rfl, ref_Do64 k hk x0 hx x.isLt y.isLt]; rfl
  | false => rw [if_neg (by decide), ref_Do32 k hk x0 hx]; rfl
theorem kind_ops (o : Int) : wrap64 ((wrap64 (Int.tmod (IntKind.u64.wrap o) 13)) * 16) ∈ ops := by
  rw [ops_iff, IntKind.wrap_u64]
  have h : Int.tmod (o % 18446744073709551616) 13 = (o % 18446744073709551616) % 13 := Int.tmod_eq_emod_of_nonneg (by omega)
  rw [h]
  generalize hr : (o % 18446744073709551616) % 13 = r
  have h0 : 0 ≤ r := by omega
  have h1 : r < 13 := by omega
  have e : wrap64 (wrap64 r * 16) = r * 16 := by unfold wrap64; omega
  rw [e, Int.tmod_eq_emod_of_nonneg (by omega)]
  omega
theorem loop (l : List Int) (d : Nat) : ∀ (k i : Nat) (x y av am bv bm : W), i ≤ l.length → l.length - i = d → d + 300 ≤ k → Mem av am x → Mem bv bm y →
    posternlaw14_TnumChains.l0 k (x.toNat : Int) (y.toNat : Int) l (l.length : Int) (i : Int) (av.toNat : Int) (am.toNat : Int) (bv.toNat : Int) (bm.toNat : Int) = some true := by
  induction d with
  | zero =>
    intro k i x y av am bv bm hi hd hk hx hy
    obtain ⟨k, rfl⟩ : ∃ q, k = q + 1 := ⟨k - 1, by omega⟩
    simp only [posternlaw14_TnumChains.l0]
    rw [if_neg (by omega), f_has hx, f_has hy]
    rfl
  | succ d ih =>
    intro k i x y av am bv bm hi hd hk hx hy
    obtain ⟨k, rfl⟩ : ∃ q, k = q + 1 := ⟨k - 1, by omega⟩
    simp only [posternlaw14_TnumChains.l0]
    rw [if_pos (by omega), if_pos (by omega), if_pos (by omega)]
    by_cases h20 : (i : Int) ≥ 20
    · rw [if_pos h20, f_has hx, f_has hy]; rfl
    · rw [if_neg h20]
      have hx0 := kind_ops (rd l (i : Int))
      generalize wrap64 ((wrap64 (Int.tmod (IntKind.u64.wrap (rd l (i : Int))) 13)) * 16) = x0 at *
      generalize ((Int.tmod (IntKind.u64.wrap (Int.tdiv (IntKind.u64.wrap (rd l (i : Int))) 13)) 2) == 0) = w
      have hs : posternlaw14_size.f w = some (if w then 64 else 32) := by cases w <;> rfl
      obtain ⟨rv, rm, e, _, _, _, h⟩ := Do_sound k (by omega) x0 hx0 w av am bv bm
      rw [e, hs]
      simp only [Option.bind_some]
      rw [ref_res k (by omega) x0 hx0 w]
      simp only [Option.bind_some, if_true]
      rw [f_has (h x y hx hy)]
      simp only [Option.bind_some, if_true]
      rw [show wrap64 ((i : Int) + 1) = ((i + 1 : Nat) : Int) by unfold wrap64; omega]
      exact ih k (i + 1) y (res x0 w x y) bv bm rv rm (by omega) (by omega) (by omega) hy (h x y hx hy)
end TnumChainsParts
open TnumChainsParts

theorem first_mono (k : Nat) : posternlaw14_first.f (300 + k) = some true := by
  induction k with
  | zero => decide +kernel
  | succ k ih => exact posternlaw14_first.mono (300 + k) _ ih

theorem TnumChains (l : List Int) (a1 a2 a3 a4 a5 a6 : Int) (_ : l.length ≤ maxLen) (_ : l.length * 8 ≤ 140737488351232) (_ : ∀ x ∈ l, (Lit.int .i64 x).wf = true) (w1 : (Lit.int .u64 a1).wf = true) (w2 : (Lit.int .u64 a2).wf = true) (w3 : (Lit.int .u64 a3).wf = true) (w4 : (Lit.int .u64 a4).wf = true) (w5 : (Lit.int .u64 a5).wf = true) (w6 : (Lit.int .u64 a6).wf = true) :
    ∃ k, posternlaw14_TnumChains.f k l a1 a2 a3 a4 a5 a6 = some true := by
  obtain ⟨av, rfl⟩ := bv_of w1
  obtain ⟨am, rfl⟩ := bv_of w2
  obtain ⟨bv, rfl⟩ := bv_of w3
  obtain ⟨bm, rfl⟩ := bv_of w4
  obtain ⟨c, rfl⟩ := bv_of w5
  obtain ⟨d, rfl⟩ := bv_of w6

  refine ⟨300 + l.length, ?_⟩
  unfold posternlaw14_TnumChains.f
  rw [first_mono]
  simp only [Option.bind_some, if_true]
  rw [f_member, f_member]
  simp only [Option.bind_some]
  exact loop l l.length (300 + l.length) 0 _ _ av am bv bm (by omega) (by omega) (by omega) (mem_member av am c) (mem_member bv bm d)

end Go.Proofs.Ytladlljnpmpdpaa.Pure
