/- mem, plain: one region of bytes at a fixed place: stores, loads. -/
import Derived.Test.YtpjgaacdohiomaaMemQ
namespace Go.Proofs.Ytpjgaacdohiomaa.MemG
open Go.RowKit Go.Proofs.Ytpjgaacdohiomaa.PMemCopies Go.Proofs.Ytpjgaacdohiomaa.Mem1 Go.Proofs.Ytpjgaacdohiomaa.MemB Go.Proofs.Ytpjgaacdohiomaa.Mem6 Go.Proofs.Ytpjgaacdohiomaa.Mem8 Go.Proofs.Ytpjgaacdohiomaa.Mem9 Go.Proofs.Ytpjgaacdohiomaa.MemN Go.Proofs.Ytpjgaacdohiomaa.MemC Go.Proofs.Ytpjgaacdohiomaa.MemD Go.Proofs.Ytpjgaacdohiomaa.MemQ
set_option linter.unusedVariables false
set_option linter.unusedSimpArgs false
/-- The region of the law. -/
def rg (l : List Int) : Rg := ⟨0, 4294967296, 3, l, none⟩
def L (k : Nat) : List Int := ((List.range k).map fun i : Nat => (100 : Int) + (i : Int)) ++ List.replicate (32 - k) 0
theorem at_rg (l : List Int) (k : Nat) (n : Int) (hk : k < l.length) : atQ [rg l] (4294967296 + k) n = if n ≤ (l.length : Int) - k then some (0, rg l, (k : Int)) else none := by
  have h1 : inQ (4294967296 + k) (rg l) = true := by
    unfold inQ rg
    simp only [Bool.and_eq_true, decide_eq_true_eq]
    omega
  have h2 : [rg l].findIdx (inQ (4294967296 + k)) = 0 := by simp [List.findIdx_cons, h1]
  unfold atQ
  rw [h2]
  simp only [List.getElem?_cons_zero]
  have h3 : (4294967296 + (k : Int)) - (rg l).base = k := by simp only [rg]; omega
  rw [h3]
  rfl
theorem store_rg (l : List Int) (k n : Nat) (v : Int) (hk : k < l.length) (hn : okSize n) : storeQ [rg l] (4294967296 + k) n v = if k + n ≤ l.length then (0, [rg (over l (putB v n) k)]) else (10, [rg l]) := by
  have hn0 : n ≠ 0 := by unfold okSize at hn; omega
  unfold storeQ writeQ
  rw [if_neg (by simpa using hn), Int.toNat_natCast, putB_length, if_neg hn0, at_rg l k n hk]
  by_cases h : k + n ≤ l.length
  · rw [if_pos h, if_pos (by omega)]
    simp only
    rw [if_neg (by simp [rg]), Int.toNat_natCast]
    rfl
  · rw [if_neg h, if_neg (by omega)]
theorem load_rg (l : List Int) (k n : Nat) (hk : k < l.length) (hn : okSize n) (h : k + n ≤ l.length) : loadQ [rg l] (4294967296 + k) n = (0, num ((l.drop k).take n)) := by
  have hn0 : n ≠ 0 := by unfold okSize at hn; omega
  have hr : readQ [rg l] (4294967296 + k) n = (0, (l.drop k).take n) := by
    unfold readQ
    rw [if_neg (by omega), if_neg (by omega), at_rg l k n hk, if_pos (by omega)]
    simp only
    rw [if_neg (by simp [rg]), if_pos (by simp [setOk, rg]), Int.toNat_natCast, Int.toNat_natCast]
    rfl
  unfold loadQ
  rw [if_neg (by simpa using hn), hr]
  simp
theorem take_over {l xs : List Int} {i : Nat} (h : i + xs.length ≤ l.length) : ((over l xs i).drop i).take xs.length = xs := by
  unfold over
  have h1 : (l.take i).length = i := by rw [List.length_take]; omega
  rw [List.append_assoc, List.drop_append, h1, Nat.sub_self, List.drop_zero, List.drop_of_length_le (by omega), List.nil_append, List.take_append_of_le_length (Nat.le_refl _), List.take_length]
theorem num_one (l : List Int) (k : Nat) (x : Int) (h : l[k]? = some x) : num ((l.drop k).take 1) = x := by
  obtain ⟨hk, rfl⟩ := List.getElem?_eq_some_iff.1 h
  rw [List.drop_eq_getElem_cons hk, List.take_succ_cons, List.take_zero]
  simp [num]
theorem L_store : ∀ k : Fin 32, storeQ [rg (L k.val)] (4294967296 + k.val) 1 (100 + k.val) = (0, [rg (L (k.val + 1))]) := by decide +kernel
theorem L_len (k : Nat) (h : k ≤ 32) : (L k).length = 32 := by simp [L]; omega
theorem L_get : ∀ k : Fin 32, (L 32)[k.val]? = some (100 + (k.val : Int)) := by decide +kernel
/-- What the bytes are behind the store. -/
def got (v : Int) (i n k : Nat) : Int := if i ≤ k ∧ k < i + n then v / 256 ^ (k - i) % 256 else 100 + k
theorem got_at (v : Int) (i n k : Nat) (hk : k < 32) (hin : i + n ≤ 32) : (over (L 32) (putB v n) i)[k]? = some (got v i n k) := by
  rw [over_get _ _ _ _ (by rw [putB_length, L_len 32 (by omega)]; exact hin), putB_length]
  unfold got
  by_cases h : i ≤ k ∧ k < i + n
  · rw [if_pos h, if_pos h, putB, List.getElem?_map, List.getElem?_range (by omega)]
    rfl
  · rw [if_neg h, if_neg h]
    exact L_get ⟨k, hk⟩
theorem load_got (v : Int) (i n k : Nat) (hk : k < 32) (hin : i + n ≤ 32) : loadQ [rg (over (L 32) (putB v n) i)] (4294967296 + k) 1 = (0, got v i n k) := by
  have hl : (over (L 32) (putB v n) i).length = 32 := by rw [over_len (by rw [putB_length, L_len 32 (by omega)]; exact hin), L_len 32 (by omega)]
  have := load_rg (over (L 32) (putB v n) i) k 1 (by omega) (by decide) (by omega)
  rw [num_one _ k _ (got_at v i n k hk hin)] at this
  exact this
theorem load_all (v : Int) (i n : Nat) (hv : 0 ≤ v) (hn : okSize n) (hin : i + n ≤ 32) : loadQ [rg (over (L 32) (putB v n) i)] (4294967296 + i) n = (0, v % 256 ^ n) := by
  have hn0 : n ≠ 0 := by unfold okSize at hn; omega
  have hl : (over (L 32) (putB v n) i).length = 32 := by rw [over_len (by rw [putB_length, L_len 32 (by omega)]; exact hin), L_len 32 (by omega)]
  rw [load_rg _ i n (by omega) hn (by omega)]
  have := take_over (l := L 32) (xs := putB v n) (i := i) (by rw [putB_length, L_len 32 (by omega)]; exact hin)
  rw [putB_length] at this
  rw [this, num_putB v hv]
end Go.Proofs.Ytpjgaacdohiomaa.MemG
