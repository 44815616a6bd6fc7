/- lru: the keys touched last are held: the plain part. -/
import Derived.Test.YtfbajampfiodeaaFirst08
import Derived.Test.YtfbajampfiodeaaOp
namespace Go.Proofs.Ytfbajampfiodeaa.LruKp
open Go.RowKit Go.Proofs.Ytfbajampfiodeaa.PArrayPlays Go.Proofs.YtfbajampfiodeaaW.PrintWords Go.Proofs.YtfbajampfiodeaaW.PrintLast Go.Proofs.YtfbajampfiodeaaW.PrintMore Go.Proofs.Ytfbajampfiodeaa.Mw Go.Proofs.Ytfbajampfiodeaa.Rx Go.Proofs.Ytfbajampfiodeaa.RxOps Go.Proofs.Ytfbajampfiodeaa.RxPut Go.Proofs.Ytfbajampfiodeaa.Fresh Go.Proofs.Ytfbajampfiodeaa.RefAbs Go.Proofs.Ytfbajampfiodeaa.Hm Go.Proofs.Ytfbajampfiodeaa.First08 Go.Proofs.Ytfbajampfiodeaa.Op
set_option linter.unusedVariables false
theorem sub_len : ∀ (L D : List Int), L.Nodup → (∀ x ∈ L, x ∈ D) → L.length ≤ D.length
  | [], D, _, _ => by simp
  | a :: t, D, hn, h => by
    obtain ⟨h1, h2⟩ := List.nodup_cons.1 hn
    have ha := h a List.mem_cons_self
    have := sub_len t (D.erase a) h2 (fun x hx => (List.mem_erase_of_ne (fun e => h1 (by rw [← e]; exact hx))).2 (h x (List.mem_cons_of_mem _ hx)))
    rw [List.length_erase_of_mem ha] at this
    have := List.length_pos_of_mem ha
    rw [List.length_cons]
    omega
/-- x was put in the first i rounds. -/
def Put (key : List Int) (i : Nat) (x : Int) : Prop := ∃ j, j < i ∧ j % 3 ≠ 2 ∧ key[j]? = some x
abbrev Inj (ks : List (Option (List Int))) : Prop := ∀ (i j : Nat) (l : List Int), ks[i]? = some (some l) → ks[j]? = some (some l) → i = j
structure Kp (key : List Int) (i : Nat) (ks : List (Option (List Int))) : Prop where
  sm : ∀ (j : Nat) (l : List Int), ks[j]? = some (some l) → ∃ x, l = [x] ∧ Put key i x
  hold : ∀ D : List Int, (∀ x, Put key i x → x ∈ D) → D.length ≤ ks.length → ∀ x, Put key i x → ∃ j : Nat, ks[j]? = some (some [x])
  last : ∀ m, i = m + 1 → m % 3 ≠ 2 → ∀ x, key[m]? = some x → ∃ j : Nat, ks[j]? = some (some [x])
theorem Put.up {key : List Int} {i : Nat} {x : Int} (h : Put key i x) : Put key (i + 1) x := by
  obtain ⟨j, h1, h2⟩ := h
  exact ⟨j, by omega, h2⟩
theorem Put.cases_ {key : List Int} {i : Nat} {x : Int} (h : Put key (i + 1) x) : Put key i x ∨ (i % 3 ≠ 2 ∧ key[i]? = some x) := by
  obtain ⟨j, h1, h2, h3⟩ := h
  by_cases e : j = i
  · subst e; exact .inr ⟨h2, h3⟩
  · exact .inl ⟨j, by omega, h2, h3⟩
theorem Kp.start (key : List Int) (m : Nat) : Kp key 0 (List.replicate m none) := by
  refine ⟨fun j l h => ?_, fun D _ _ x ⟨j, h, _⟩ => absurd h (by omega), fun m h => absurd h (by omega)⟩
  rw [List.getElem?_replicate] at h
  split at h <;> cases h
theorem Kp.find {key : List Int} {i : Nat} {ks : List (Option (List Int))} (h : Kp key i ks) (hi : i % 3 = 2) : Kp key (i + 1) ks := by
  have back : ∀ x, Put key (i + 1) x → Put key i x := fun x hx => hx.cases_.resolve_right (fun h => h.1 hi)
  refine ⟨fun j l hj => ?_, fun D hD hl x hx => h.hold D (fun x hx => hD x hx.up) hl x (back x hx), fun m e hm => absurd hm (by omega)⟩
  obtain ⟨x, e, hx⟩ := h.sm j l hj
  exact ⟨x, e, hx.up⟩
theorem put0 (st : St) (x : Int) (h0 : 0 < st.ks.length) : (put 2 1 st [x] 0).1.2.2 = 0 ∧ ((0 ≤ sameAt [x] st.ks 0 ∧ (put 2 1 st [x] 0).2.ks = st.ks) ∨ (sameAt [x] st.ks 0 < 0 ∧ ∃ r : Nat, r < st.ks.length ∧ (put 2 1 st [x] 0).2.ks = st.ks.set r (some [x]) ∧ (st.ks[r]? = some none ∨ freeAt st.ks 0 = -1))) := by
  have e1 : putOld 2 1 st.ks [x] 0 = none := by
    unfold putOld
    rw [if_neg (by simp), if_neg (by omega), if_neg (fun h => absurd h.1 (by decide)), if_neg (fun h => absurd h.2 (by decide)), if_neg (fun h => absurd h.2 (by decide)), if_neg (fun h => h.2.2 rfl)]
  unfold put
  rw [e1]
  by_cases hs : 0 ≤ sameAt [x] st.ks 0
  · simp only
    rw [if_pos hs]
    exact ⟨rfl, .inl ⟨hs, rfl⟩⟩
  · simp only
    rw [if_neg hs]
    refine ⟨rfl, .inr ⟨by omega, ?_⟩⟩
    rcases free_bound st.ks 0 with hf | ⟨r, hf, _, hr⟩
    · refine ⟨oldest st.wn st.ks.length, oldest_lt _ _ _ (Nat.le_refl _) h0, ?_, .inr hf⟩
      show st.ks.set (slotFor st.ks st.wn).toNat (some [x]) = _
      unfold slotFor
      rw [if_pos (by omega), Int.toNat_natCast]
    · refine ⟨r, by omega, ?_, .inl (HashPut.free_at hf)⟩
      show st.ks.set (slotFor st.ks st.wn).toNat (some [x]) = _
      unfold slotFor
      rw [if_neg (by omega), hf, Int.toNat_natCast]
theorem Kp.put {key : List Int} {i : Nat} {st : St} (h : Kp key i st.ks) (hinj : Inj st.ks) (h0 : 0 < st.ks.length) (hi : i % 3 ≠ 2) {x : Int} (hx : key[i]? = some x) : Kp key (i + 1) (RefAbs.put 2 1 st [x] 0).2.ks := by
  have hxp : Put key (i + 1) x := ⟨i, Nat.lt_succ_self _, hi, hx⟩
  rcases (put0 st x h0).2 with ⟨hs, e⟩ | ⟨hs, r, hr, e, hfree⟩
  · rw [e]
    have hh : ∃ j : Nat, st.ks[j]? = some (some [x]) := by
      rcases same_slot [x] st.ks with h1 | ⟨j, h1, _⟩
      · omega
      · exact ⟨j, same_some h1⟩
    refine ⟨fun j l hj => ?_, fun D hD hl y hy => ?_, fun m e hm y hy => ?_⟩
    · obtain ⟨y, e, hy⟩ := h.sm j l hj
      exact ⟨y, e, hy.up⟩
    · rcases hy.cases_ with hy | ⟨_, hy⟩
      · exact h.hold D (fun x hx => hD x hx.up) hl y hy
      · rw [hx] at hy; cases hy; exact hh
    · obtain rfl : m = i := by omega
      rw [hx] at hy; cases hy; exact hh
  · rw [e]
    have hh : (st.ks.set r (some [x]))[r]? = some (some [x]) := List.getElem?_set_self hr
    refine ⟨fun j l hj => ?_, fun D hD hl y hy => ?_, fun m e hm y hy => ?_⟩
    · by_cases e2 : r = j
      · subst e2
        rw [hh] at hj
        cases hj
        exact ⟨x, rfl, hxp⟩
      · rw [List.getElem?_set_ne e2] at hj
        obtain ⟨y, e, hy⟩ := h.sm j l hj
        exact ⟨y, e, hy.up⟩
    · rw [List.length_set] at hl
      rcases hfree with hn | hf
      · rcases hy.cases_ with hy | ⟨_, hy⟩
        · obtain ⟨j, hj⟩ := h.hold D (fun x hx => hD x hx.up) hl y hy
          exact ⟨j, by rw [List.getElem?_set_ne (by rintro rfl; rw [hn] at hj; cases hj)]; exact hj⟩
        · rw [hx] at hy; cases hy; exact ⟨r, hh⟩
      · exfalso
        have hall := Imp08.free_all st.ks 0 hf
        have hval : ∀ j (hj : j < st.ks.length), ∃ y, st.ks[j]? = some (some [y]) ∧ Put key i y ∧ ((st.ks[j].getD []).headD 0) = y := fun j hj => by
          obtain ⟨l, e⟩ := hall j hj
          obtain ⟨y, rfl, hy⟩ := h.sm j l e
          refine ⟨y, e, hy, ?_⟩
          rw [(List.getElem?_eq_some_iff.1 e).2]
          rfl
        have := sub_len (x :: st.ks.map fun k => (k.getD []).headD 0) D (by
          refine List.nodup_cons.2 ⟨fun hm => ?_, ?_⟩
          · obtain ⟨k, hk, e⟩ := List.mem_map.1 hm
            obtain ⟨j, hj⟩ := List.mem_iff_getElem?.1 hk
            obtain ⟨hjl, hje⟩ := List.getElem?_eq_some_iff.1 hj
            obtain ⟨y, h1, _, h3⟩ := hval j hjl
            rw [hje, e] at h3
            subst h3
            exact same_none' hs j h1
          · rw [List.nodup_iff_pairwise_ne, List.pairwise_iff_getElem]
            intro a b ha hb hab e
            rw [List.length_map] at ha hb
            rw [List.getElem_map, List.getElem_map] at e
            obtain ⟨y, h1, _, h3⟩ := hval a ha
            obtain ⟨z, h4, _, h6⟩ := hval b hb
            rw [h3, h6] at e
            subst e
            have := hinj a b _ h1 h4
            omega) (fun y hy => by
          rcases List.mem_cons.1 hy with rfl | hy
          · exact hD _ hxp
          · obtain ⟨k, hk, e⟩ := List.mem_map.1 hy
            obtain ⟨j, hj⟩ := List.mem_iff_getElem?.1 hk
            obtain ⟨hjl, hje⟩ := List.getElem?_eq_some_iff.1 hj
            obtain ⟨z, h1, h2, h3⟩ := hval j hjl
            rw [hje, e] at h3
            subst h3
            exact hD _ h2.up)
        rw [List.length_cons, List.length_map] at this
        omega
    · obtain rfl : m = i := by omega
      rw [hx] at hy; cases hy; exact ⟨r, hh⟩
theorem keys_nodup {ks : List (Option (List Int))} (hinj : Inj ks) : (ks.filterMap id).Nodup := by
  rw [List.nodup_iff_pairwise_ne, List.pairwise_filterMap, List.pairwise_iff_getElem]
  intro i j hi hj hij a ha b hb hab
  have ha : ks[i] = some a := ha
  have hb : ks[j] = some b := hb
  have := hinj i j a (by rw [List.getElem?_eq_getElem hi, ha]) (by rw [List.getElem?_eq_getElem hj, hb, hab])
  omega
theorem mem_keys {ks : List (Option (List Int))} {l : List Int} : l ∈ ks.filterMap id ↔ ∃ j : Nat, ks[j]? = some (some l) := by
  constructor
  · intro h
    obtain ⟨k, hk, e⟩ := List.mem_filterMap.1 h
    have e : k = some l := e
    subst e
    exact List.mem_iff_getElem?.1 hk
  · rintro ⟨j, hj⟩
    exact List.mem_filterMap.2 ⟨some l, List.mem_of_getElem? hj, rfl⟩
/-- As many are held as were put, where there is room. -/
theorem Kp.count {key : List Int} {n : Nat} {ks : List (Option (List Int))} (h : Kp key n ks) (hinj : Inj ks) {L : List Int} (hn : L.Nodup) (h1 : ∀ x ∈ L, Put key n x) (h2 : ∀ x, Put key n x → x ∈ L) (hl : L.length < ks.length) : (ks.filterMap id).length = L.length := by
  have hone : ∀ l ∈ ks.filterMap id, ∃ x, l = [x] ∧ Put key n x := fun l hl => by
    obtain ⟨j, hj⟩ := mem_keys.1 hl
    exact h.sm j l hj
  have a1 := sub_len ((ks.filterMap id).map fun l => l.headD 0) L (by
    rw [List.nodup_iff_pairwise_ne, List.pairwise_map]
    refine (keys_nodup hinj).imp_of_mem ?_
    intro a b ha hb hab e
    obtain ⟨x, rfl, _⟩ := hone a ha
    obtain ⟨y, rfl, _⟩ := hone b hb
    exact hab (by have e : x = y := e; rw [e])) (fun x hx => by
    obtain ⟨l, hl, rfl⟩ := List.mem_map.1 hx
    obtain ⟨y, rfl, hy⟩ := hone l hl
    exact h2 y hy)
  have a2 := sub_len L ((ks.filterMap id).map fun l => l.headD 0) hn (fun x hx => by
    obtain ⟨j, hj⟩ := h.hold L h2 (by omega) x (h1 x hx)
    exact List.mem_map.2 ⟨[x], mem_keys.2 ⟨j, hj⟩, rfl⟩)
  rw [List.length_map] at a1 a2
  omega
end Go.Proofs.Ytfbajampfiodeaa.LruKp
