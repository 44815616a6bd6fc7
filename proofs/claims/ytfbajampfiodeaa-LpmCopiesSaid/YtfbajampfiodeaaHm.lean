/- The keys by slot as a map of strings: what a look-up finds; what a store and a delete make of it. -/
import Derived.Test.YtfbajampfiodeaaRxCopy
import Derived.Maps.OwnSet
import Derived.Maps.RangeWalk
import Derived.StringKeys
namespace Go.Proofs.Ytfbajampfiodeaa.Hm
open Go.RowKit Go.Maps Go.Proofs.Ytfbajampfiodeaa.PArrayPlays Go.Proofs.YtfbajampfiodeaaW.PrintWords Go.Proofs.YtfbajampfiodeaaW.PrintLast Go.Proofs.YtfbajampfiodeaaW.PrintMore Go.Proofs.Ytfbajampfiodeaa.Mw Go.Proofs.Ytfbajampfiodeaa.Rx Go.Proofs.Ytfbajampfiodeaa.RxOps Go.Proofs.Ytfbajampfiodeaa.RxPut
set_option linter.unusedVariables false
abbrev law : Keyed Try.prog 9 := string_keyed Try.underlying9
theorem zeroE (w : World) : (zeroValue 3).run Try.prog w = .ok (.int .i64 0) w := by kernel_rfl
/-- A key, as the map has it. -/
def klit (l : List Int) : Lit := .string (strOfNums l).data.toList
def Bs (l : List Int) : Prop := ∀ x ∈ l, 0 ≤ x ∧ x ≤ 255
theorem klit_inj {a b : List Int} (ha : Bs a) (hb : Bs b) (h : klit a = klit b) : a = b := by
  unfold klit at h
  injection h with h
  exact str_inj ha hb (by rw [ByteArray.toList_eq, ByteArray.toList_eq]; exact h)
theorem klit_key (l : List Int) (hl : l.length ≤ 9223372036854775807) : keyOf Try.prog 9 (.string (strOfNums l)) = some (klit l) :=
  Go.WideMaps.keyOf_string_mk Try.underlying9 (by simp [strOfNums, maxLen, ByteArray.size]; omega)
theorem klit_is (l : List Int) : WideAt.IsKeyLit (klit l) := by unfold klit; trivial
theorem same_some {l : List Int} {ks : List (Option (List Int))} {i : Nat} (h : sameAt l ks 0 = (i : Int)) : ks[i]? = some (some l) := by
  have key : ∀ (ks : List (Option (List Int))) (j : Nat), sameAt l ks j = (i : Int) → j ≤ i ∧ ks[i - j]? = some (some l) := by
    intro ks
    induction ks with
    | nil => intro j h; simp [sameAt] at h
    | cons k t ih =>
      intro j h
      unfold sameAt at h
      by_cases hk : k = some l
      · rw [if_pos hk] at h
        obtain rfl : j = i := by omega
        simp [hk]
      · rw [if_neg hk] at h
        obtain ⟨h1, h2⟩ := ih (j + 1) h
        refine ⟨by omega, ?_⟩
        obtain ⟨d, rfl⟩ : ∃ d, i = j + 1 + d := ⟨i - (j + 1), by omega⟩
        rw [show j + 1 + d - (j + 1) = d by omega] at h2
        rw [show j + 1 + d - j = d + 1 by omega]
        simpa using h2
  have := (key ks 0 h).2
  simpa using this
theorem same_none' {l : List Int} {ks : List (Option (List Int))} (h : sameAt l ks 0 < 0) : ∀ i : Nat, ks[i]? ≠ some (some l) := by
  have key : ∀ (ks : List (Option (List Int))) (j : Nat), sameAt l ks j < 0 → ∀ i : Nat, ks[i]? ≠ some (some l) := by
    intro ks
    induction ks with
    | nil => intro j h i; simp
    | cons k t ih =>
      intro j h i
      unfold sameAt at h
      by_cases hk : k = some l
      · rw [if_pos hk] at h; omega
      · rw [if_neg hk] at h
        cases i with
        | zero => simpa using hk
        | succ i => simpa using ih (j + 1) h i
  exact key ks 0 h
/-- The map holds just the keys by their slots. -/
structure MapIs (D : DataW Unit) (ks : List (Option (List Int))) : Prop where
  has : ∀ k, Maps.has D k = true → ∃ (i : Nat) (l : List Int), ks[i]? = some (some l) ∧ k = klit l
  at_ : ∀ (i : Nat) (l : List Int), ks[i]? = some (some l) → Maps.has D (klit l) = true ∧ ∀ z, D.atKey (klit l) z = .lit (.int .i64 (i : Int))
section
variable {D : DataW Unit} {ks : List (Option (List Int))}
theorem MapIs.inj (h : MapIs D ks) {i j : Nat} {l : List Int} (h1 : ks[i]? = some (some l)) (h2 : ks[j]? = some (some l)) : i = j := by
  have e1 := (h.at_ i l h1).2 (.lit (.int .i64 0))
  have e2 := (h.at_ j l h2).2 (.lit (.int .i64 0))
  rw [e1] at e2
  injection e2 with e2
  injection e2 with _ e2
  omega
theorem MapIs.miss (h : MapIs D ks) (hk : ∀ l, some l ∈ ks → Bs l) {l : List Int} (hl : Bs l) (hs : sameAt l ks 0 < 0) : Maps.has D (klit l) = false := by
  cases hh : Maps.has D (klit l) with
  | false => rfl
  | true =>
    obtain ⟨i, l', h1, h2⟩ := h.has _ hh
    have := klit_inj hl (hk l' (List.mem_of_getElem? h1)) h2
    subst this
    exact absurd h1 (same_none' hs i)
theorem MapIs.put (h : MapIs D ks) (hm : IsMap D) (hk : ∀ l, some l ∈ ks → Bs l) {l : List Int} (hl : Bs l) (hs : sameAt l ks 0 < 0) {i : Nat} (hi : i < ks.length) (hf : ks[i]? = some none) : MapIs (D.put (klit l) (.lit (.int .i64 (i : Int)))) (ks.set i (some l)) := by
  refine ⟨fun k hh => ?_, fun j l' hj => ?_⟩
  · by_cases e : k = klit l
    · exact ⟨i, l, by rw [List.getElem?_set_self hi], e⟩
    · rw [has_put_other e] at hh
      obtain ⟨j, l', h1, h2⟩ := h.has k hh
      refine ⟨j, l', ?_, h2⟩
      rw [List.getElem?_set_ne (by rintro rfl; rw [hf] at h1; cases h1)]
      exact h1
  · by_cases e : i = j
    · subst e
      rw [List.getElem?_set_self hi] at hj
      cases hj
      exact ⟨has_put_same hm (klit_is l) _, fun z => atKey_put_same hm (klit_is l) _ z⟩
    · rw [List.getElem?_set_ne e] at hj
      have hne : klit l' ≠ klit l := fun e2 => by
        have := klit_inj (hk l' (List.mem_of_getElem? hj)) hl e2
        subst this
        exact same_none' hs j hj
      rw [has_put_other hne]
      exact ⟨(h.at_ j l' hj).1, fun z => by rw [atKey_put_other hne]; exact (h.at_ j l' hj).2 z⟩
theorem MapIs.del (h : MapIs D ks) (hk : ∀ l, some l ∈ ks → Bs l) {l : List Int} {i : Nat} (hi : ks[i]? = some (some l)) : MapIs (D.del (klit l)) (ks.set i none) := by
  have hil : i < ks.length := (List.getElem?_eq_some_iff.1 hi).1
  refine ⟨fun k hh => ?_, fun j l' hj => ?_⟩
  · by_cases e : k = klit l
    · subst e
      rw [has_del_same] at hh
      cases hh
    · rw [has_del_other e] at hh
      obtain ⟨j, l', h1, h2⟩ := h.has k hh
      refine ⟨j, l', ?_, h2⟩
      rw [List.getElem?_set_ne (by rintro rfl; rw [hi] at h1; cases h1; exact e h2)]
      exact h1
  · by_cases e : i = j
    · subst e
      rw [List.getElem?_set_self hil] at hj
      cases hj
    · rw [List.getElem?_set_ne e] at hj
      have hne : klit l' ≠ klit l := fun e2 => by
        have := klit_inj (hk l' (List.mem_of_getElem? hj)) (hk l (List.mem_of_getElem? hi)) e2
        subst this
        exact e (h.inj hi hj)
      rw [has_del_other hne]
      exact ⟨(h.at_ j l' hj).1, fun z => by rw [atKey_del_other hne]; exact (h.at_ j l' hj).2 z⟩
end
theorem MapIs.empty (m : Nat) : MapIs (.map []) (List.replicate m none) := by
  refine ⟨fun k h => by simp [Maps.has] at h, fun i l h => ?_⟩
  rw [List.getElem?_replicate] at h
  split at h <;> cases h
section
variable {w : World} {bm n : Nat} {D : DataW Unit} {ks : List (Option (List Int))}
/-- 'v, ok := m[k]', of a key that is there. -/
theorem look_hit (h : w.ownsMap Try.prog 9 (plainElem Try.prog 3) bm n D) (hm : MapIs D ks) (l : List Int) (hl : l.length ≤ 9223372036854775807) (i : Nat) (hi : sameAt l ks 0 = (i : Int)) :
    (Instr.lookup 99 (.map (some bm)) (.string (strOfNums l)) true).run Try.prog w = .ok (.tuple #[.int .i64 (i : Int), .bool true]) w := by
  obtain ⟨v, ps, hr, hv⟩ := h.look_ok law Try.underlying99 (zeroE w) (plainElem_int Try.underlying3 (by decide)) (klit_key l hl)
  obtain ⟨h1, h2⟩ := hm.at_ i l (same_some hi)
  rw [h2] at hv
  obtain ⟨c, rfl, hc, _⟩ := plainElem_int_inv Try.underlying3 hv
  simp only [Prod.mk.injEq, DataW.lit.injEq, Lit.int.injEq] at hc
  rw [h1] at hr
  rw [hr, hc.1.2]
theorem look_miss (h : w.ownsMap Try.prog 9 (plainElem Try.prog 3) bm n D) (hm : MapIs D ks) (hk : ∀ l, some l ∈ ks → Bs l) (l : List Int) (hlb : Bs l) (hl : l.length ≤ 9223372036854775807) (hi : sameAt l ks 0 < 0) :
    (Instr.lookup 99 (.map (some bm)) (.string (strOfNums l)) true).run Try.prog w = .ok (.tuple #[.int .i64 0, .bool false]) w := by
  obtain ⟨v, ps, hr, hv⟩ := h.look_ok law Try.underlying99 (zeroE w) (plainElem_int Try.underlying3 (by decide)) (klit_key l hl)
  have h1 := hm.miss hk hlb hi
  rw [atKey_of_not_has h1] at hv
  obtain ⟨c, rfl, hc, _⟩ := plainElem_int_inv Try.underlying3 hv
  simp only [Prod.mk.injEq, DataW.lit.injEq, Lit.int.injEq] at hc
  rw [h1] at hr
  rw [hr, ← hc.1.2]
end
end Go.Proofs.Ytfbajampfiodeaa.Hm
