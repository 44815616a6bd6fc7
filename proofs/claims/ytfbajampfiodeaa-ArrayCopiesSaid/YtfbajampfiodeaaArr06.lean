/- array: what its calls answer, of the numbers below max. -/
import Derived.Test.YtfbajampfiodeaaRefAbs
import Derived.Test.YtfbajampfiodeaaLeNumArrayPlays
namespace Go.Proofs.Ytfbajampfiodeaa.Arr06
open Go.RowKit Go.Proofs.Ytfbajampfiodeaa.PArrayPlays Go.Proofs.YtfbajampfiodeaaW.PrintWords Go.Proofs.YtfbajampfiodeaaW.PrintLast Go.Proofs.YtfbajampfiodeaaW.PrintMore Go.Proofs.Ytfbajampfiodeaa.LeNumArrayPlays Go.Proofs.Ytfbajampfiodeaa.Rx Go.Proofs.Ytfbajampfiodeaa.RxNew Go.Proofs.Ytfbajampfiodeaa.RxMore
set_option linter.unusedVariables false
theorem put_step (k : Nat) (x : List Int) (v : Int) (i : Nat) (hi : i < 4) (hx : x.length < 100) :
    le_Put.l0 (k + 1) x v 4 (i : Int) = le_Put.l0 k (x ++ [(shr .u64 v (IntKind.u64.wrap (wrap64 (8 * (i : Int))))) % 256]) v 4 ((i + 1 : Nat) : Int) := by
  rw [le_Put.l0, if_pos (by omega), if_pos (by rw [IntKind.wrap_u64]; omega), if_pos (by omega), show wrap64 ((i : Int) + 1) = ((i + 1 : Nat) : Int) by unfold wrap64; omega]
/-! ### What the two answer -/
theorem sameAt_hit {l : List Int} {ks : List (Option (List Int))} {r : Nat} (h : ks[r]? = some (some l)) (hb : ∀ j, j < r → ks[j]? ≠ some (some l)) : ∀ d i, i + d = r → sameAt l (ks.drop i) i = (r : Int) := by
  intro d
  induction d with
  | zero => intro i hi; obtain rfl : i = r := by omega
            exact same_hit h
  | succ d ih =>
    intro i hi
    obtain ⟨hr, _⟩ := List.getElem?_eq_some_iff.1 h
    rw [same_none (hb i (by omega)) (by omega)]
    exact ih (i + 1) (by omega)
theorem sameAt_miss {l : List Int} {ks : List (Option (List Int))} (h : ∀ j : Nat, ks[j]? ≠ some (some l)) : ∀ d i, i + d = ks.length → sameAt l (ks.drop i) i = -1 := by
  intro d
  induction d with
  | zero => intro i hi; rw [List.drop_eq_nil_of_le (by omega)]; rfl
  | succ d ih =>
    intro i hi
    rw [same_none (h i) (by omega)]
    exact ih (i + 1) (by omega)
theorem numk_at (m i : Nat) (h : i < m) : (numk m m)[i]? = some (some [(i : Int), 0, 0, 0]) := by
  unfold numk
  rw [List.getElem?_map, List.getElem?_range h]
  simp [h]
theorem numk_in {m : Nat} {l : List Int} (h : some l ∈ numk m m) : ∃ i : Nat, i < m ∧ l = [(i : Int), 0, 0, 0] := by
  unfold numk at h
  obtain ⟨i, hi, e⟩ := List.mem_map.1 h
  have hm : i < m := List.mem_range.1 hi
  rw [if_pos hm] at e
  exact ⟨i, hm, (Option.some.inj e).symm⟩
theorem numk_eq {m j : Nat} {l : List Int} (h : (numk m m)[j]? = some (some l)) : j < m ∧ l = [(j : Int), 0, 0, 0] := by
  obtain ⟨hj, _⟩ := List.getElem?_eq_some_iff.1 h
  rw [numk_len] at hj
  rw [numk_at m j hj] at h
  injection h with h; injection h with h
  exact ⟨hj, h.symm⟩
theorem numk_bytes {m : Nat} (hm : m ≤ 64) : ∀ l', some l' ∈ numk m m → ∀ x ∈ l', 0 ≤ x ∧ x ≤ 255 := by
  intro l' h x hx
  obtain ⟨i, hi, rfl⟩ := numk_in h
  simp at hx
  omega
theorem same4 {m : Nat} {a b c d : Int} (ha : Byte a) (hb : Byte b) (hc : Byte c) (hd : Byte d) (hm : m ≤ 64) :
    sameAt [a, b, c, d] (numk m m) 0 = if a + 256 * b + 65536 * c + 16777216 * d < (m : Int) then a + 256 * b + 65536 * c + 16777216 * d else -1 := by
  obtain ⟨a0, a1⟩ := ha; obtain ⟨b0, b1⟩ := hb; obtain ⟨c0, c1⟩ := hc; obtain ⟨d0, d1⟩ := hd
  by_cases h : a + 256 * b + 65536 * c + 16777216 * d < (m : Int)
  · rw [if_pos h]
    obtain rfl : b = 0 := by omega
    obtain rfl : c = 0 := by omega
    obtain rfl : d = 0 := by omega
    obtain ⟨n, rfl⟩ := Int.eq_ofNat_of_zero_le a0
    have := sameAt_hit (numk_at m n (by omega)) (fun j hj e => by
      obtain ⟨_, h2⟩ := numk_eq e
      injection h2 with h2
      omega) n 0 (by omega)
    rw [List.drop_zero] at this
    rw [this]
    omega
  · rw [if_neg h]
    exact sameAt_miss (fun j e => by
      obtain ⟨h1, h2⟩ := numk_eq e
      injection h2 with h2 h3
      injection h3 with h3 h4
      injection h4 with h4 h5
      injection h5 with h5
      omega) _ 0 (Nat.zero_add _)
theorem Find4 (m : Nat) {a b c d : Int} (ha : Byte a) (hb : Byte b) (hc : Byte c) (hd : Byte d) (hm : m ≤ 64) :
    array_Index_Find.f 20 m [a, b, c, d] = some (if a + 256 * b + 65536 * c + 16777216 * d < (m : Int) then a + 256 * b + 65536 * c + 16777216 * d else 0, decide (a + 256 * b + 65536 * c + 16777216 * d < (m : Int)), (m : Int)) := by
  unfold array_Index_Find.f
  rw [if_pos (show ((List.length [a, b, c, d] : Nat) : Int) = 4 from rfl), num4 20 (by omega) ha hb hc hd, Option.bind_some, IntKind.wrap_u64, show (m : Int) % 18446744073709551616 = m by omega]
  obtain ⟨a0, a1⟩ := ha; obtain ⟨b0, b1⟩ := hb; obtain ⟨c0, c1⟩ := hc; obtain ⟨d0, d1⟩ := hd
  generalize hN : a + 256 * b + 65536 * c + 16777216 * d = n
  by_cases h : n < (m : Int)
  · rw [if_neg (by omega), if_pos h, decide_eq_true h, show wrap64 n = n by unfold wrap64; omega]
  · rw [if_pos (by omega), if_neg h, decide_eq_false h]
/-- Both find the same. -/
theorem find_both (m : Nat) (hm : m ≤ 64) (l : List Int) (hl : l.length = 4) (hb : ∀ x ∈ l, 0 ≤ x ∧ x ≤ 255) :
    array_Index_Find.f 20 m l = some (max (sameAt l (numk m m) 0) 0, decide (0 ≤ sameAt l (numk m m) 0), (m : Int)) := by
  match l, hl with
  | [a, b, c, d], _ =>
    have ha := hb a (by simp); have hb' := hb b (by simp); have hc := hb c (by simp); have hd := hb d (by simp)
    rw [Find4 m ha hb' hc hd hm, same4 ha hb' hc hd hm]
    obtain ⟨a0, a1⟩ := ha; obtain ⟨b0, b1⟩ := hb'; obtain ⟨c0, c1⟩ := hc; obtain ⟨d0, d1⟩ := hd
    generalize hN : a + 256 * b + 65536 * c + 16777216 * d = n
    have n0 : 0 ≤ n := by omega
    by_cases h : n < (m : Int)
    · rw [if_pos h, if_pos h, decide_eq_true h, decide_eq_true n0, show max n 0 = n by omega]
    · rw [if_neg h, if_neg h, decide_eq_false h]; rfl
theorem find_no (m : Int) (l : List Int) (hl : l.length ≠ 4) : array_Index_Find.f 20 m l = some (0, false, m) := by
  unfold array_Index_Find.f
  rw [if_neg (by omega)]
theorem put_bytes (k : Nat) (i : Nat) (hi : i < 64) : le_Put.f (k + 5) [] (i : Int) 4 = some [(i : Int), 0, 0, 0] := by
  have e0 := put_step (k + 4) [] (i : Int) 0 (by omega) (by simp)
  have e1 := fun x (hx : x.length < 100) => put_step (k + 3) x (i : Int) 1 (by omega) hx
  have e2 := fun x (hx : x.length < 100) => put_step (k + 2) x (i : Int) 2 (by omega) hx
  have e3 := fun x (hx : x.length < 100) => put_step (k + 1) x (i : Int) 3 (by omega) hx
  have d0 := (by decide +kernel : ∀ v : Fin 64, (shr .u64 (v.val : Int) (IntKind.u64.wrap (wrap64 (8 * ((0 : Nat) : Int))))) % 256 = (v.val : Int)) ⟨i, hi⟩
  have d1 := (by decide +kernel : ∀ v : Fin 64, (shr .u64 (v.val : Int) (IntKind.u64.wrap (wrap64 (8 * ((1 : Nat) : Int))))) % 256 = 0) ⟨i, hi⟩
  have d2 := (by decide +kernel : ∀ v : Fin 64, (shr .u64 (v.val : Int) (IntKind.u64.wrap (wrap64 (8 * ((2 : Nat) : Int))))) % 256 = 0) ⟨i, hi⟩
  have d3 := (by decide +kernel : ∀ v : Fin 64, (shr .u64 (v.val : Int) (IntKind.u64.wrap (wrap64 (8 * ((3 : Nat) : Int))))) % 256 = 0) ⟨i, hi⟩
  rw [d0] at e0
  rw [d1] at e1
  rw [d2] at e2
  rw [d3] at e3
  unfold le_Put.f
  refine (e0.trans ((e1 _ (by simp)).trans ((e2 _ (by simp)).trans (e3 _ (by simp))))).trans ?_
  rw [le_Put.l0, if_neg (by omega)]
  rfl
/-- The rows of Keys. -/
def rows (m : Nat) : List (List Int) := (numk m m).filterMap id
theorem numk_up (m k : Nat) (hk : k ≤ m) : ((numk m m).take k).filterMap id = (List.range k).map fun (i : Nat) => [(i : Int), 0, 0, 0] := by
  induction k with
  | zero => rfl
  | succ k ih => rw [keys_some (numk_at m k (by omega)), ih (by omega), List.range_succ, List.map_append]; rfl
theorem rows_eq (m : Nat) : rows m = (List.range m).map fun (i : Nat) => [(i : Int), 0, 0, 0] := by
  have := numk_up m m (Nat.le_refl _)
  rwa [List.take_of_length_le (by rw [numk_len]; omega)] at this
theorem rows_len (m : Nat) : (rows m).length = m := by rw [rows_eq]; simp
theorem rows_bytes (m : Nat) (hm : m ≤ 64) : ∀ l ∈ rows m, ∀ x ∈ l, 0 ≤ x ∧ x ≤ 255 := by
  intro l hl x hx
  rw [rows_eq] at hl
  obtain ⟨i, hi, rfl⟩ := List.mem_map.1 hl
  have := List.mem_range.1 hi
  simp at hx
  omega
theorem keys_loop2 (m : Nat) (hm : m ≤ 64) (x : Int) : ∀ (d i : Nat), i + d = m → array_Index_Keys.l0 (d + 10) ((List.range i).map fun (i : Nat) => [(i : Int), 0, 0, 0]) (m : Int) (i : Int) x = some ((List.range m).map fun (i : Nat) => [(i : Int), 0, 0, 0], x) := by
  intro d
  induction d with
  | zero =>
    intro i hi
    obtain rfl : i = m := by omega
    rw [array_Index_Keys.l0, if_neg (by omega)]
  | succ d ih =>
    intro i hi
    have hp := put_bytes (d + 5) i (by omega)
    rw [show d + 1 + 10 = (d + 10) + 1 by omega, array_Index_Keys.l0, if_pos (by omega), show IntKind.u64.wrap (i : Int) = (i : Int) by rw [IntKind.wrap_u64]; omega, hp, Option.bind_some, if_pos (by simp; omega), show wrap64 ((i : Int) + 1) = ((i + 1 : Nat) : Int) by unfold wrap64; omega]
    rw [← ih (i + 1) (by omega), List.range_succ, List.map_append]
    rfl
theorem Keys_is (m : Nat) (h2 : m ≤ 64) : array_Index_Keys.f (m + 10) m = some (rows m, (m : Int)) := by
  rw [rows_eq]
  exact keys_loop2 m h2 (m : Int) m 0 (by omega)
end Go.Proofs.Ytfbajampfiodeaa.Arr06
