/- mem, plain: one region of bytes with marks at a fixed place: stores, reads. -/
import Derived.Test.YtpjgaacdohiomaaMemQ
namespace Go.Proofs.Ytpjgaacdohiomaa.MemH
open Go.RowKit Go.Proofs.Ytpjgaacdohiomaa.PMemCopies Go.Proofs.Ytpjgaacdohiomaa.Mem1 Go.Proofs.Ytpjgaacdohiomaa.MemB Go.Proofs.Ytpjgaacdohiomaa.Mem6 Go.Proofs.Ytpjgaacdohiomaa.Mem8 Go.Proofs.Ytpjgaacdohiomaa.Mem9 Go.Proofs.Ytpjgaacdohiomaa.MemN Go.Proofs.Ytpjgaacdohiomaa.MemC Go.Proofs.Ytpjgaacdohiomaa.MemD Go.Proofs.Ytpjgaacdohiomaa.MemQ
set_option linter.unusedVariables false
set_option linter.unusedSimpArgs false
def rf (l : List Int) (s : List Bool) : Rg := ⟨0, 4294967296, 7, l, some s⟩
theorem at_rf (l : List Int) (s : List Bool) (k : Nat) (n : Int) (hl : l.length = 64) (hk : k < 64) : atQ [rf l s] (4294967296 + k) n = if n ≤ 64 - k then some (0, rf l s, (k : Int)) else none := by
  have h1 : inQ (4294967296 + k) (rf l s) = true := by
    unfold inQ rf
    simp only [Bool.and_eq_true, decide_eq_true_eq]
    omega
  have h2 : [rf l s].findIdx (inQ (4294967296 + k)) = 0 := by simp [List.findIdx_cons, h1]
  unfold atQ
  rw [h2]
  simp only [List.getElem?_cons_zero]
  have h3 : (4294967296 + (k : Int)) - (rf l s).base = k := by simp only [rf]; omega
  have h4 : ((rf l s).bytes.length : Int) = 64 := by simp only [rf, hl]; rfl
  rw [h3, h4]
theorem over_set (s : List Bool) (k : Nat) (hk : k < s.length) : over s [true] k = s.set k true := by
  apply List.ext_getElem?
  intro j
  rw [over_get _ _ _ _ (by simp; omega), List.getElem?_set]
  by_cases h : k = j
  · subst h
    rw [if_pos (by simp), if_pos rfl, if_pos hk]
    simp
  · rw [if_neg (by simp; omega), if_neg h]
theorem store_rf (l : List Int) (s : List Bool) (k : Nat) (v : Int) (hl : l.length = 64) (hs : s.length = 64) (hk : k < 64) : storeQ [rf l s] (4294967296 + k) 1 v = (0, [rf (over l (putB v 1) k) (s.set k true)]) := by
  unfold storeQ writeQ
  rw [if_neg (by decide), show (1 : Int).toNat = 1 from rfl, putB_length, if_neg (by omega), at_rf l s k _ hl hk, if_pos (by omega)]
  simp only
  rw [if_neg (by simp [rf]), Int.toNat_natCast, ← over_set s k (by omega)]
  unfold layR rf
  simp [putB_length]
theorem over_len1 (l : List Int) (k : Nat) (v : Int) (hl : l.length = 64) (hk : k < 64) : (over l (putB v 1) k).length = 64 := by rw [over_len (by rw [putB_length]; omega), hl]
theorem read_rf (l : List Int) (s : List Bool) (a n : Nat) (hl : l.length = 64) (ha : a < 64) : (readQ [rf l s] (4294967296 + a) n).1 = if n = 0 then 0 else if 64 < a + n then 10 else if allSet s a n = true then 0 else 11 := by
  unfold readQ
  rw [if_neg (by omega)]
  by_cases h0 : n = 0
  · subst h0
    rfl
  rw [if_neg (by omega), if_neg h0, at_rf l s a _ hl ha]
  by_cases h1 : 64 < a + n
  · rw [if_neg (by omega), if_pos h1]
  rw [if_pos (by omega), if_neg h1]
  simp only
  rw [if_neg (by simp [rf]), Int.toNat_natCast, Int.toNat_natCast]
  have : setOk (rf l s) a n = allSet s a n := rfl
  rw [this]
  by_cases h2 : allSet s a n = true
  · rw [if_pos h2, if_pos h2]
  · rw [if_neg h2, if_neg h2]
theorem bytes_rf (l : List Int) (s : List Bool) : bytesQ [rf l s] 0 = (0, l) := by simp [bytesQ, idQ, isIdQ, rf, List.find?]
/-- The law's own reckoning: is one of the first j unset? -/
def want (s : List Bool) (a j : Nat) : Int := if allSet s a j = true then 0 else 11
theorem want_zero (s : List Bool) (a : Nat) : want s a 0 = 0 := by simp [want, allSet]
theorem allSet_succ (s : List Bool) (a j : Nat) (h : a + j < s.length) : allSet s a (j + 1) = (allSet s a j && s[a + j]) := by
  unfold allSet
  have : (s.drop a).take (j + 1) = (s.drop a).take j ++ [s[a + j]] := by
    rw [List.take_add_one, List.getElem?_drop, List.getElem?_eq_getElem h]
    rfl
  rw [this, List.all_append]
  simp
theorem want_succ (s : List Bool) (a j : Nat) (h : a + j < s.length) : want s a (j + 1) = if s[a + j] = true then want s a j else 11 := by
  unfold want
  rw [allSet_succ s a j h]
  by_cases h1 : s[a + j] = true
  · rw [if_pos h1, h1, Bool.and_true]
  · rw [if_neg h1]
    rw [if_neg (by simp [h1])]
end Go.Proofs.Ytpjgaacdohiomaa.MemH
