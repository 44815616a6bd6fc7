/- Plain: le.Num of four bytes. -/
import Derived.Test.YtfbajampfiodeaaFns
import Derived.Test.YtfbajampfiodeaaNum
namespace Go.Proofs.Ytfbajampfiodeaa.LeNumArrayPlays
open Go.RowKit Go.Proofs.Ytfbajampfiodeaa.PArrayPlays Go.Proofs.YtfbajampfiodeaaW.PrintWords Go.Proofs.YtfbajampfiodeaaW.PrintLast Go.Proofs.YtfbajampfiodeaaW.PrintMore
open Go.Proofs.Ytfbajampfiodeaa.Num

def Byte (x : Int) : Prop := 0 ≤ x ∧ x ≤ 255
/-! ### Numbers of two and of four bytes -/
theorem or_add {x y p q : Int} (i : Nat) (hx0 : 0 ≤ x) (hx : x < p) (hp : p = 2 ^ i) (hy0 : 0 ≤ y) (hy : y * p < 18446744073709551616) (hi : i ≤ 63) (hq : q = y * p) : Go.bits .or .u64 x q = x + q := by
  subst hq hp
  obtain ⟨a, rfl⟩ := Int.eq_ofNat_of_zero_le hx0
  obtain ⟨b, rfl⟩ := Int.eq_ofNat_of_zero_le hy0
  have hpw : ((2 ^ i : Nat) : Int) = 2 ^ i := by rw [Int.natCast_pow]; rfl
  rw [← hpw] at hx hy ⊢
  rw [← Int.natCast_mul] at hy ⊢
  have h1 : a < 2 ^ i := by omega
  have h2 : 2 ^ i ≤ 2 ^ 63 := Nat.pow_le_pow_right (by decide) hi
  have h3 : 2 ^ 63 < 18446744073709551616 := by decide
  have h := Nat.two_pow_add_eq_or_of_lt h1 b
  rw [or_nat (by omega) (by omega), Nat.or_comm, Nat.mul_comm b, ← h]
  omega
theorem w8 (i : Int) (h0 : 0 ≤ i) (h : i ≤ 7) : IntKind.u64.wrap (wrap64 (8 * i)) = 8 * i := by rw [IntKind.wrap_u64]; unfold wrap64; omega
theorem shl_byte {c : Int} (hc : Byte c) (n : Nat) (hn : n ≤ 56) (p : Int) (hp : p = 2 ^ n) : shl .u64 (IntKind.u64.wrap c) (n : Int) = c * p := by
  obtain ⟨h0, h1⟩ := hc
  obtain ⟨a, rfl⟩ := Int.eq_ofNat_of_zero_le h0
  subst hp
  have e : IntKind.u64.wrap (a : Int) = (a : Int) := by rw [IntKind.wrap_u64]; omega
  rw [e, shl_nat a n (by omega)]
  have h2 : 2 ^ n ≤ 2 ^ 56 := Nat.pow_le_pow_right (by decide) hn
  have h3 : a * 2 ^ n ≤ 255 * 2 ^ 56 := Nat.mul_le_mul (by omega) h2
  have h4 : 255 * 2 ^ 56 < 18446744073709551616 := by decide
  rw [Nat.mod_eq_of_lt (by omega), Int.natCast_mul, Int.natCast_pow]
  rfl
theorem num_step (k : Nat) (x : Int) (l : List Int) (n : Int) (i : Nat) (hi : i ≤ 7) (hn : (i : Int) < n) (hl : (i : Int) < (l.length : Int)) (hc : Byte (rd l (i : Int))) (p : Int) (hp : p = 2 ^ (8 * i)) (hx0 : 0 ≤ x) (hx : x < p) (hy : rd l (i : Int) * p < 18446744073709551616) :
    le_Num.l0 (k + 1) x l n (i : Int) = le_Num.l0 k (x + rd l (i : Int) * p) l n ((i + 1 : Nat) : Int) := by
  simp only [le_Num.l0]
  rw [if_pos hn, if_pos (by omega), if_pos hl, w8 (i : Int) (by omega) (by omega), if_pos (by omega), show 8 * (i : Int) = ((8 * i : Nat) : Int) by omega, shl_byte hc (8 * i) (by omega) p hp]
  rw [or_add (8 * i) hx0 hx hp hc.1 hy (by omega) rfl, show wrap64 ((i : Int) + 1) = ((i + 1 : Nat) : Int) by unfold wrap64; omega]
theorem num4 (k : Nat) (hk : 8 ≤ k) {c d e f : Int} (hc : Byte c) (hd : Byte d) (he : Byte e) (hf : Byte f) : le_Num.f k [c, d, e, f] = some (c + 256 * d + 65536 * e + 16777216 * f) := by
  obtain ⟨k, rfl⟩ : ∃ q, k = q + 8 := ⟨k - 8, by omega⟩
  obtain ⟨c0, c1⟩ := hc
  obtain ⟨d0, d1⟩ := hd
  obtain ⟨e0, e1⟩ := he
  obtain ⟨f0, f1⟩ := hf
  unfold le_Num.f
  have s0 := num_step (k + 7) 0 [c, d, e, f] 4 0 (by omega) (by omega) (by simp) ⟨c0, c1⟩ 1 (by decide) (by omega) (by omega) (by show c * 1 < _; omega)
  have s1 := num_step (k + 6) (0 + c * 1) [c, d, e, f] 4 1 (by omega) (by omega) (by simp) ⟨d0, d1⟩ 256 (by decide) (by omega) (by omega) (by show d * 256 < _; omega)
  have s2 := num_step (k + 5) (0 + c * 1 + d * 256) [c, d, e, f] 4 2 (by omega) (by omega) (by simp) ⟨e0, e1⟩ 65536 (by decide) (by omega) (by omega) (by show e * 65536 < _; omega)
  have s3 := num_step (k + 4) (0 + c * 1 + d * 256 + e * 65536) [c, d, e, f] 4 3 (by omega) (by omega) (by simp) ⟨f0, f1⟩ 16777216 (by decide) (by omega) (by omega) (by show f * 16777216 < _; omega)
  refine (s0.trans (s1.trans (s2.trans s3))).trans ?_
  simp only [le_Num.l0]
  rw [if_neg (by decide)]
  congr 1
  show 0 + c * 1 + d * 256 + e * 65536 + f * 16777216 = _
  omega

end Go.Proofs.Ytfbajampfiodeaa.LeNumArrayPlays
