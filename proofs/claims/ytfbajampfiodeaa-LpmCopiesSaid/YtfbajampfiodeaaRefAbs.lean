/- The document's index as an abstract machine (kinds 0, 1, 2): its state, its calls; the walks of Find, Put, Del, Keys, Copy, New in its words. -/
import Derived.Test.YtfbajampfiodeaaFresh
namespace Go.Proofs.Ytfbajampfiodeaa.RefAbs
open Go.RowKit Go.Proofs.Ytfbajampfiodeaa.PArrayPlays Go.Proofs.YtfbajampfiodeaaW.PrintWords Go.Proofs.YtfbajampfiodeaaW.PrintLast Go.Proofs.YtfbajampfiodeaaW.PrintMore Go.Proofs.Ytfbajampfiodeaa.Mw Go.Proofs.Ytfbajampfiodeaa.Rx Go.Proofs.Ytfbajampfiodeaa.RxOps Go.Proofs.Ytfbajampfiodeaa.RxPut Go.Proofs.Ytfbajampfiodeaa.RxNew Go.Proofs.Ytfbajampfiodeaa.RxMore Go.Proofs.Ytfbajampfiodeaa.RxCopy Go.Proofs.Ytfbajampfiodeaa.Fresh
set_option linter.unusedVariables false
/-- The state: the keys by slot, the times, the clock. -/
structure St where
  ks : List (Option (List Int))
  wn : List Int
  ck : Int
def fnd (kd sz : Int) (st : St) (l : List Int) : Int × St :=
  if (l.length : Int) = sz then (sameAt l st.ks 0, ⟨st.ks, touched st.wn (sameAt l st.ks 0) (st.ck + 1), st.ck + 1⟩) else (-1, st)
def slotFor (ks : List (Option (List Int))) (wn : List Int) : Int := if freeAt ks 0 < 0 then ((oldest wn ks.length : Nat) : Int) else freeAt ks 0
def put (kd sz : Int) (st : St) (l : List Int) (f : Int) : (Int × Bool × Int) × St :=
  match putOld kd sz st.ks l f with
  | some a => (a, st)
  | none =>
    if 0 ≤ sameAt l st.ks 0 then ((sameAt l st.ks 0, false, 0), ⟨st.ks, touched st.wn (sameAt l st.ks 0) (st.ck + 1), st.ck + 1⟩)
    else ((slotFor st.ks st.wn, true, 0), ⟨st.ks.set (slotFor st.ks st.wn).toNat (some l), touched st.wn (slotFor st.ks st.wn) (st.ck + 1), st.ck + 1⟩)
def del (kd sz : Int) (st : St) (l : List Int) : (Int × Int) × St :=
  if kd = 0 ∨ (l.length : Int) ≠ sz then ((0, 2), st)
  else if sameAt l st.ks 0 < 0 then ((0, 14), st)
  else ((sameAt l st.ks 0, 0), ⟨st.ks.set (sameAt l st.ks 0).toNat none, st.wn, st.ck⟩)
def keys (st : St) : List (List Int) := st.ks.filterMap id
theorem fnd_ck (kd sz : Int) (st : St) (l : List Int) : st.ck ≤ (fnd kd sz st l).2.ck ∧ (fnd kd sz st l).2.ck ≤ st.ck + 1 := by
  unfold fnd; split <;> simp <;> omega
theorem put_ck (kd sz : Int) (st : St) (l : List Int) (f : Int) : st.ck ≤ (put kd sz st l f).2.ck ∧ (put kd sz st l f).2.ck ≤ st.ck + 1 := by
  unfold put; split
  · simp; omega
  · split <;> simp <;> omega
theorem del_ck (kd sz : Int) (st : St) (l : List Int) : st.ck ≤ (del kd sz st l).2.ck ∧ (del kd sz st l).2.ck ≤ st.ck + 1 := by
  unfold del; split
  · simp; omega
  · split <;> simp <;> omega
/-- The index lies at g, in the blocks F. -/
def RI (w : World) (F : Nat → Prop) (g : Nat) (kd sz : Int) (st : St) : Prop := ∃ gs gw mx, RIx w F g gs gw kd sz mx st.ck st.ks st.wn
section
variable {w w' : World} {F F' : Nat → Prop} {g : Nat} {kd sz : Int} {st : St}
theorem RI.keep (h : RI w F g kd sz st) (hk : ∀ b, F b → w'.heap[b]? = w.heap[b]?) (hsz : w.heap.size ≤ w'.heap.size) : RI w' F g kd sz st := by
  obtain ⟨gs, gw, mx, h⟩ := h; exact ⟨gs, gw, mx, h.keep hk hsz⟩
theorem RI.lt (h : RI w F g kd sz st) : ∀ b, F b → b < w.heap.size := by obtain ⟨gs, gw, mx, h⟩ := h; exact h.lt
theorem RI.rows (h : RI w F g kd sz st) : (keys st).length ≤ 64 ∧ ∀ l ∈ keys st, 0 < l.length ∧ l.length ≤ 16 ∧ ∀ x ∈ l, 0 ≤ x ∧ x ≤ 255 := by
  obtain ⟨gs, gw, mx, h⟩ := h
  refine ⟨Nat.le_trans (List.length_filterMap_le _ _) h.len.2, fun l hl => ?_⟩
  obtain ⟨k, hk, e⟩ := List.mem_filterMap.1 hl
  have e : k = some l := e
  subst e
  have := h.kb l hk
  have := h.szs
  exact ⟨by omega, by omega, (h.kb l hk).2⟩
theorem ref_find (h : RI w F g kd sz st) (hkd : kd ≠ 3) (hck : st.ck < 4611686018427387904) (A : Option Addr) (c : Nat) (l : List Int) (hC : Kd.C (Kd.int .u8) w A l.length l) (hl : l.length ≤ c) (hlb : ∀ x ∈ l, 0 ≤ x ∧ x ≤ 255) :
    Calls Try.prog 58 #[.pointer (some ⟨g, 0, none⟩), .slice A l.length c] w fun e w' => e = .returned (.int .i64 (fnd kd sz st l).1) ∧ ∃ F', RI w' F' g kd sz (fnd kd sz st l).2 ∧ Step w w' F F' := by
  obtain ⟨gs, gw, mx, h⟩ := h
  by_cases hz : (l.length : Int) = sz
  · rw [show fnd kd sz st l = (sameAt l st.ks 0, ⟨st.ks, touched st.wn (sameAt l st.ks 0) (st.ck + 1), st.ck + 1⟩) by unfold fnd; rw [if_pos hz]]
    exact (Find_ h hkd hck A c l hC hl hz hlb).mono fun e w' ⟨he, hR, hS⟩ => ⟨he, F, ⟨gs, gw, mx, hR⟩, hS⟩
  · rw [show fnd kd sz st l = (-1, st) by unfold fnd; rw [if_neg hz]]
    exact (Find_bad h hkd A l.length c hz).mono fun e w' ⟨he, n, hn⟩ => ⟨he, F, ⟨gs, gw, mx, hn ▸ h.drewN n⟩, hn ▸ (Step.refl w F).drewN n⟩
theorem ref_put (h : RI w F g kd sz st) (hkd : kd = 0 ∨ kd = 1 ∨ kd = 2) (hck : st.ck < 4611686018427387904) (A : Option Addr) (c : Nat) (l : List Int) (f : Int) (hC : Kd.C (Kd.int .u8) w A l.length l) (hl : l.length ≤ c) (hlb : ∀ x ∈ l, 0 ≤ x ∧ x ≤ 255) :
    Calls Try.prog 59 #[.pointer (some ⟨g, 0, none⟩), .slice A l.length c, .int .u64 f] w fun e w' => e = .returned (.tuple #[.int .i64 (put kd sz st l f).1.1, .bool (put kd sz st l f).1.2.1, .int .i64 (put kd sz st l f).1.2.2]) ∧ ∃ F', RI w' F' g kd sz (put kd sz st l f).2 ∧ Step w w' F F' := by
  obtain ⟨gs, gw, mx, h⟩ := h
  have hkd3 : kd ≠ 3 := by omega
  have old : ∀ (a : Int × Bool × Int), putOld kd sz st.ks l f = some a → Calls Try.prog 59 #[.pointer (some ⟨g, 0, none⟩), .slice A l.length c, .int .u64 f] w (fun e w' => e = .returned (.tuple #[.int .i64 a.1, .bool a.2.1, .int .i64 a.2.2]) ∧ ∃ n, w' = w.drewN n) →
      Calls Try.prog 59 #[.pointer (some ⟨g, 0, none⟩), .slice A l.length c, .int .u64 f] w fun e w' => e = .returned (.tuple #[.int .i64 (put kd sz st l f).1.1, .bool (put kd sz st l f).1.2.1, .int .i64 (put kd sz st l f).1.2.2]) ∧ ∃ F', RI w' F' g kd sz (put kd sz st l f).2 ∧ Step w w' F F' := by
    intro a ha hc
    rw [show put kd sz st l f = (a, st) by unfold put; rw [ha]]
    exact hc.mono fun e w' ⟨he, n, hn⟩ => ⟨he, F, ⟨gs, gw, mx, hn ▸ h.drewN n⟩, hn ▸ (Step.refl w F).drewN n⟩
  by_cases hz : (l.length : Int) = sz
  · by_cases hf : f > 2
    · exact old (0, false, 72) (by unfold putOld; rw [if_neg (by simpa using hz), if_pos hf]) (Put_flags h hkd3 A l.length c f hz hf)
    · by_cases hs : sameAt l st.ks 0 < 0
      · by_cases h0 : kd = 0
        · exact old (0, false, 71) (by unfold putOld; rw [if_neg (by simpa using hz), if_neg hf, if_pos ⟨h0, hs⟩]) (Put_full h hkd3 A c l f hC hl hz hlb hf h0 hs)
        · by_cases hf2 : f = 2
          · exact old (0, false, 14) (by unfold putOld; rw [if_neg (by simpa using hz), if_neg hf, if_neg (by omega), if_neg (by omega), if_pos ⟨hs, hf2⟩]) (Put_none h hkd3 A c l f hC hl hz hlb hs hf2 h0)
          · rcases free_bound st.ks 0 with hfr | ⟨r, hfr, _, hr⟩
            · by_cases h1 : kd = 1
              · exact old (0, false, 71) (by unfold putOld; rw [if_neg (by simpa using hz), if_neg hf, if_neg (by omega), if_neg (by omega), if_neg (by omega), if_pos (by omega)]) (Put_no h h1 A c l f hC hl hz hlb hf hs hf2 (by omega))
              · have e : put kd sz st l f = ((((oldest st.wn st.ks.length : Nat) : Int), true, 0), ⟨st.ks.set (oldest st.wn st.ks.length) (some l), touched st.wn ((oldest st.wn st.ks.length : Nat) : Int) (st.ck + 1), st.ck + 1⟩) := by
                  have e1 : putOld kd sz st.ks l f = none := by unfold putOld; rw [if_neg (by simpa using hz), if_neg hf, if_neg (by omega), if_neg (by omega), if_neg (by omega), if_neg (by omega)]
                  have e2 : slotFor st.ks st.wn = ((oldest st.wn st.ks.length : Nat) : Int) := by unfold slotFor; rw [if_pos (by omega)]
                  unfold put
                  rw [e1]
                  simp only [e2]
                  rw [if_neg (by omega), Int.toNat_natCast]
                rw [e]
                exact (Put_lru h (by omega) hck A c l f hC hl hz hlb hf hs hf2 (by omega) _ rfl).mono fun e w' ⟨he, F', hR, hS⟩ => ⟨he, F', ⟨gs, gw, mx, hR⟩, hS⟩
            · have e : put kd sz st l f = (((r : Int), true, 0), ⟨st.ks.set r (some l), touched st.wn (r : Int) (st.ck + 1), st.ck + 1⟩) := by
                have e1 : putOld kd sz st.ks l f = none := by unfold putOld; rw [if_neg (by simpa using hz), if_neg hf, if_neg (by omega), if_neg (by omega), if_neg (by omega), if_neg (by omega)]
                have e2 : slotFor st.ks st.wn = (r : Int) := by unfold slotFor; rw [if_neg (by omega), hfr]
                unfold put
                rw [e1]
                simp only [e2]
                rw [if_neg (by omega), Int.toNat_natCast]
              rw [e]
              exact (Put_new h (by omega) hck A c l f hC hl hz hlb hf hs hf2 r hfr (by omega)).mono fun e w' ⟨he, F', hR, hS⟩ => ⟨he, F', ⟨gs, gw, mx, hR⟩, hS⟩
      · by_cases hf1 : f = 1
        · exact old (0, false, 70) (by unfold putOld; rw [if_neg (by simpa using hz), if_neg hf, if_neg (by omega), if_pos (by omega)]) (Put_exist h hkd3 A c l f hC hl hz hlb hf (by omega) hf1)
        · have e : put kd sz st l f = ((sameAt l st.ks 0, false, 0), ⟨st.ks, touched st.wn (sameAt l st.ks 0) (st.ck + 1), st.ck + 1⟩) := by
            have e1 : putOld kd sz st.ks l f = none := by unfold putOld; rw [if_neg (by simpa using hz), if_neg hf, if_neg (by omega), if_neg (by omega), if_neg (by omega), if_neg (by omega)]
            unfold put
            rw [e1]
            simp only
            rw [if_pos (by omega)]
          rw [e]
          exact (Put_again h hkd3 hck A c l f hC hl hz hlb hf (by omega) hf1).mono fun e w' ⟨he, hR, hS⟩ => ⟨he, F, ⟨gs, gw, mx, hR⟩, hS⟩
  · exact old (0, false, 2) (by unfold putOld; rw [if_pos hz]) (Put_bad h hkd3 A l.length c f hz)
theorem ref_del (h : RI w F g kd sz st) (hkd : kd ≠ 3) (A : Option Addr) (c : Nat) (l : List Int) (hC : Kd.C (Kd.int .u8) w A l.length l) (hl : l.length ≤ c) (hlb : ∀ x ∈ l, 0 ≤ x ∧ x ≤ 255) :
    Calls Try.prog 60 #[.pointer (some ⟨g, 0, none⟩), .slice A l.length c] w fun e w' => e = .returned (.tuple #[.int .i64 (del kd sz st l).1.1, .int .i64 (del kd sz st l).1.2]) ∧ ∃ F', RI w' F' g kd sz (del kd sz st l).2 ∧ Step w w' F F' := by
  obtain ⟨gs, gw, mx, h⟩ := h
  by_cases h0 : kd = 0
  · rw [show del kd sz st l = ((0, 2), st) by unfold del; rw [if_pos (.inl h0)]]
    exact (Del_0 h h0 A l.length c).mono fun e w' ⟨he, hn⟩ => ⟨he, F, ⟨gs, gw, mx, hn ▸ h⟩, hn ▸ Step.refl w F⟩
  · by_cases hz : (l.length : Int) = sz
    · rcases same_slot l st.ks with e | ⟨i, e, hi⟩
      · rw [show del kd sz st l = ((0, 14), st) by unfold del; rw [if_neg (by omega), if_pos (by omega)]]
        exact (Del_none h hkd h0 A c l hC hl hz hlb (by omega)).mono fun e w' ⟨he, n, hn⟩ => ⟨he, F, ⟨gs, gw, mx, hn ▸ h.drewN n⟩, hn ▸ (Step.refl w F).drewN n⟩
      · rw [show del kd sz st l = (((i : Int), 0), ⟨st.ks.set i none, st.wn, st.ck⟩) by unfold del; rw [if_neg (by omega), if_neg (by omega), e, Int.toNat_natCast]]
        exact (Del_ h hkd h0 A c l hC hl hz hlb i e hi).mono fun e w' ⟨he, hR, hS⟩ => ⟨he, F, ⟨gs, gw, mx, hR⟩, hS⟩
    · rw [show del kd sz st l = ((0, 2), st) by unfold del; rw [if_pos (.inr hz)]]
      exact (Del_bad h hkd h0 A l.length c hz).mono fun e w' ⟨he, n, hn⟩ => ⟨he, F, ⟨gs, gw, mx, hn ▸ h.drewN n⟩, hn ▸ (Step.refl w F).drewN n⟩
theorem ref_keys (h : RI w F g kd sz st) :
    Calls Try.prog 22 #[.pointer (some ⟨g, 0, none⟩)] w fun e w' => ∃ v, e = .returned v ∧ FreshRows w' w.heap.size v (keys st) ∧ Below w.heap.size w w' := by
  have hr := h.rows.2
  obtain ⟨gs, gw, mx, h⟩ := h
  exact (Keys_ h).mono fun e w' ⟨v, he, hR, hB⟩ => ⟨v, he, FreshRows.of_R hR (fun l hl => (hr l hl).1), hB⟩
theorem ref_copy (h : RI w F g kd sz st) :
    Calls Try.prog 27 #[.pointer (some ⟨g, 0, none⟩)] w fun e w' => ∃ F' g', e = .returned (.pointer (some ⟨g', 0, none⟩)) ∧ RI w' F' g' kd sz st ∧ (∀ b, F' b → w.heap.size ≤ b) ∧ Below w.heap.size w w' := by
  obtain ⟨gs, gw, mx, h⟩ := h
  exact (Copy_ h).mono fun e w' ⟨F', g', gs', gw', he, hR, hF, hB⟩ => ⟨F', g', he, ⟨gs', gw', mx, hR⟩, hF, hB⟩
end
end Go.Proofs.Ytfbajampfiodeaa.RefAbs
