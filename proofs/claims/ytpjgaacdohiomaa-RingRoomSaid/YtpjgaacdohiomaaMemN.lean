/- Plain: le.Num and le.Put of up to eight bytes. -/
import Derived.Test.YtpjgaacdohiomaaFns
import Derived.Test.YtpjgaacdohiomaaNum
namespace Go.Proofs.Ytpjgaacdohiomaa.MemN
open Go.RowKit Go.Proofs.Ytpjgaacdohiomaa.PMemCopies Go.Proofs.YtpjgaacdohiomaaW.PrintWords Go.Proofs.YtpjgaacdohiomaaW.PrintLast Go.Proofs.YtpjgaacdohiomaaW.PrintMore
open Go.Proofs.Ytpjgaacdohiomaa.Num
set_option linter.unusedVariables false
set_option linter.unusedSimpArgs false
def Byte (x : Int) : Prop := 0 ≤ x ∧ x ≤ 255
/-! ### Numbers of two and of four bytes -/
theorem or_add {x y p q : Int} (i : Nat) (hx0 : 0 ≤ x) (hx : x < p) (hp : p = 2 ^ i) (hy0 : 0 ≤ y) (hy : y * p < 18446744073709551616) (hi : i ≤ 63) (hq : q = y * p) : Go.bits .or .u64 x q = x + q := by
  subst hq hp
  obtain ⟨a, rfl⟩ := Int.eq_ofNat_of_zero_le hx0
  obtain ⟨b, rfl⟩ := Int.eq_ofNat_of_zero_le hy0
  have hpw : ((2 ^ i : Nat) : Int) = 2 ^ i := by rw [Int.natCast_pow]; rfl
  rw [← hpw] at hx hy ⊢
  rw [← Int.natCast_mul] at hy ⊢
  have h1 : a < 2 ^ i := by omega
  have h2 : 2 ^ i ≤ 2 ^ 63 := Nat.pow_le_pow_right (by decide) hi
  have h3 : 2 ^ 63 < 18446744073709551616 := by decide
  have h := Nat.two_pow_add_eq_or_of_lt h1 b
  rw [or_nat (by omega) (by omega), Nat.or_comm, Nat.mul_comm b, ← h]
  omega
theorem w8 (i : Int) (h0 : 0 ≤ i) (h : i ≤ 7) : IntKind.u64.wrap (wrap64 (8 * i)) = 8 * i := by rw [IntKind.wrap_u64]; unfold wrap64; omega
theorem shl_byte {c : Int} (hc : Byte c) (n : Nat) (hn : n ≤ 56) (p : Int) (hp : p = 2 ^ n) : shl .u64 (IntKind.u64.wrap c) (n : Int) = c * p := by
  obtain ⟨h0, h1⟩ := hc
  obtain ⟨a, rfl⟩ := Int.eq_ofNat_of_zero_le h0
  subst hp
  have e : IntKind.u64.wrap (a : Int) = (a : Int) := by rw [IntKind.wrap_u64]; omega
  rw [e, shl_nat a n (by omega)]
  have h2 : 2 ^ n ≤ 2 ^ 56 := Nat.pow_le_pow_right (by decide) hn
  have h3 : a * 2 ^ n ≤ 255 * 2 ^ 56 := Nat.mul_le_mul (by omega) h2
  have h4 : 255 * 2 ^ 56 < 18446744073709551616 := by decide
  rw [Nat.mod_eq_of_lt (by omega), Int.natCast_mul, Int.natCast_pow]
  rfl
theorem num_step (k : Nat) (x : Int) (l : List Int) (n : Int) (i : Nat) (hi : i ≤ 7) (hn : (i : Int) < n) (hl : (i : Int) < (l.length : Int)) (hc : Byte (rd l (i : Int))) (p : Int) (hp : p = 2 ^ (8 * i)) (hx0 : 0 ≤ x) (hx : x < p) (hy : rd l (i : Int) * p < 18446744073709551616) :
    le_Num.l0 (k + 1) x l n (i : Int) = le_Num.l0 k (x + rd l (i : Int) * p) l n ((i + 1 : Nat) : Int) := by
  simp only [le_Num.l0]
  rw [if_pos hn, if_pos (by omega), if_pos hl, w8 (i : Int) (by omega) (by omega), if_pos (by omega), show 8 * (i : Int) = ((8 * i : Nat) : Int) by omega, shl_byte hc (8 * i) (by omega) p hp]
  rw [or_add (8 * i) hx0 hx hp hc.1 hy (by omega) rfl, show wrap64 ((i : Int) + 1) = ((i + 1 : Nat) : Int) by unfold wrap64; omega]
/-- The number of bytes, lowest first. -/
def num : List Int → Int
  | [] => 0
  | x :: l => x + 256 * num l
theorem num_append (l : List Int) (x : Int) : num (l ++ [x]) = num l + x * 256 ^ l.length := by
  induction l with
  | nil => simp [num]
  | cons y l ih =>
    simp only [List.cons_append, num, ih, List.length_cons, Int.pow_succ]
    rw [Int.mul_add, Int.add_assoc]
    congr 2
    rw [← Int.mul_assoc, ← Int.mul_assoc, Int.mul_comm 256 x, Int.mul_assoc, Int.mul_assoc, Int.mul_comm 256]
theorem num_bounds (l : List Int) (h : ∀ x ∈ l, Byte x) : 0 ≤ num l ∧ num l < 256 ^ l.length := by
  induction l with
  | nil => simp [num]
  | cons y l ih =>
    obtain ⟨h1, h2⟩ := ih (fun x hx => h x (.tail _ hx))
    obtain ⟨h3, h4⟩ := h y (.head _)
    simp only [num, List.length_cons, Int.pow_succ]
    omega
theorem pow8 (i : Nat) : (256 : Int) ^ i = 2 ^ (8 * i) := by rw [Int.pow_mul]; rfl
theorem rd_at {l : List Int} {i : Nat} (h : i < l.length) : rd l (i : Int) = l[i] := by
  simp [rd, h]
theorem num_go (l : List Int) (h : ∀ x ∈ l, Byte x) (h8 : l.length ≤ 8) (j : Nat) : ∀ (i k : Nat), i + j = l.length → le_Num.l0 (j + k + 1) (num (l.take i)) l (l.length : Int) (i : Int) = some (num l) := by
  induction j with
  | zero =>
    intro i k hi
    simp only [le_Num.l0]
    rw [if_neg (by omega), List.take_of_length_le (by omega)]
  | succ j ih =>
    intro i k hi
    have hil : i < l.length := by omega
    have hb : Byte (l[i]) := h _ (List.getElem_mem hil)
    have hr := rd_at hil
    have ht : l.take (i + 1) = l.take i ++ [l[i]] := by rw [List.take_add_one, List.getElem?_eq_getElem hil]; rfl
    have hlt : (l.take i).length = i := by rw [List.length_take]; omega
    have hbo := num_bounds (l.take i) (fun x hx => h x (List.mem_of_mem_take hx))
    rw [hlt] at hbo
    have hp : 0 ≤ (256 : Int) ^ i ∧ (256 : Int) ^ i ≤ 256 ^ 7 := (by decide +kernel : ∀ i : Fin 8, 0 ≤ (256 : Int) ^ i.val ∧ (256 : Int) ^ i.val ≤ 256 ^ 7) ⟨i, by omega⟩
    have hp7 : (256 : Int) ^ 7 = 72057594037927936 := by decide
    have hy : rd l (i : Int) * 256 ^ i < 18446744073709551616 := by
      rw [hr]
      have h1 : l[i] * 256 ^ i ≤ 255 * 256 ^ i := Int.mul_le_mul_of_nonneg_right hb.2 hp.1
      omega
    have := num_step (j + k + 1) (num (l.take i)) l (l.length : Int) i (by omega) (by omega) (by omega) (hr ▸ hb) (256 ^ i) (pow8 i) hbo.1 hbo.2 hy
    rw [show j + 1 + k + 1 = j + k + 1 + 1 by omega, this, ← ih (i + 1) k (by omega), ht, num_append, hlt, hr]
theorem Num_ (l : List Int) (h : ∀ x ∈ l, Byte x) (h8 : l.length ≤ 8) : le_Num.f 9 l = some (num l) := by
  have := num_go l h h8 l.length 0 (8 - l.length) (by omega)
  rw [show l.length + (8 - l.length) + 1 = 9 by omega] at this
  exact this
/-- The bytes of a number. -/
def putB (v : Int) (n : Nat) : List Int := (List.range n).map fun i => v / 256 ^ i % 256
theorem putB_length (v : Int) (n : Nat) : (putB v n).length = n := by simp [putB]
theorem putB_byte (v : Int) (n : Nat) : ∀ x ∈ putB v n, Byte x := fun x hx => by
  obtain ⟨i, _, rfl⟩ := List.mem_map.1 hx
  unfold Byte
  omega
theorem putB_succ (v : Int) (n : Nat) : putB v (n + 1) = putB v n ++ [v / 256 ^ n % 256] := by simp [putB, List.range_succ]
theorem put_go (v : Int) (hv : 0 ≤ v ∧ v < 18446744073709551616) (n : Nat) (h8 : n ≤ 8) (j : Nat) : ∀ (i k : Nat), i + j = n → le_Put.l0 (j + k + 1) (putB v i) v (n : Int) (i : Int) = some (putB v n) := by
  induction j with
  | zero =>
    intro i k hi
    obtain rfl : i = n := by omega
    simp only [le_Put.l0]
    rw [if_neg (by omega)]
  | succ j ih =>
    intro i k hi
    rw [show j + 1 + k + 1 = j + k + 1 + 1 by omega]
    simp only [le_Put.l0]
    obtain ⟨a, rfl⟩ := Int.eq_ofNat_of_zero_le hv.1
    have hsh : shr .u64 (a : Int) ((8 * i : Nat) : Int) % 256 = (a : Int) / 256 ^ i % 256 := by
      rw [shr_nat a (8 * i) (by omega), pow8, Int.natCast_ediv, Int.natCast_pow]
      rfl
    rw [if_pos (by omega), w8 (i : Int) (by omega) (by omega), if_pos (by omega), if_pos (by rw [putB_length]; omega), show 8 * (i : Int) = ((8 * i : Nat) : Int) by omega, hsh, show wrap64 ((i : Int) + 1) = ((i + 1 : Nat) : Int) by unfold wrap64; omega]
    rw [← ih (i + 1) k (by omega), putB_succ]
    rfl
theorem Put_ (v : Int) (hv : 0 ≤ v ∧ v < 18446744073709551616) (n : Nat) (h8 : n ≤ 8) : le_Put.f 9 [] v (n : Int) = some (putB v n) := by
  have := put_go v hv n h8 n 0 (8 - n) (by omega)
  rw [show n + (8 - n) + 1 = 9 by omega] at this
  exact this
theorem num_putB (v : Int) (hv : 0 ≤ v) (n : Nat) : num (putB v n) = v % 256 ^ n := by
  induction n with
  | zero => simp [putB, num]
  | succ n ih =>
    rw [putB_succ, num_append, ih, putB_length, Int.pow_succ]
    have h0 : (0 : Int) < 256 ^ n := Int.pow_pos (by decide)
    generalize (256 : Int) ^ n = P at *
    have h1 := Int.emod_def v P
    have h2 := Int.emod_def (v / P) 256
    have h3 : v % (P * 256) = v - P * 256 * (v / P / 256) := by rw [Int.emod_def, Int.ediv_ediv_of_nonneg (Int.le_of_lt h0)]
    rw [h3]
    have h4 : P * 256 * (v / P / 256) = P * (256 * (v / P / 256)) := Int.mul_assoc _ _ _
    rw [h4]
    generalize hq : 256 * (v / P / 256) = Q at *
    have h5 : P * (v / P) = P * (v / P % 256) + P * Q := by rw [← Int.mul_add]; congr 1; omega
    have h6 : v / P % 256 * P = P * (v / P % 256) := Int.mul_comm _ _
    rw [h6]
    omega
end Go.Proofs.Ytpjgaacdohiomaa.MemN
