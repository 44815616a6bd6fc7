/- hash.Index as the abstract machine of the kind 1. -/
import Derived.Test.YtfbajampfiodeaaRefAbs
import Derived.Test.YtfbajampfiodeaaHashCopy
namespace Go.Proofs.Ytfbajampfiodeaa.Imp07
open Go.RowKit Go.Proofs.Ytfbajampfiodeaa.PArrayPlays Go.Proofs.YtfbajampfiodeaaW.PrintWords Go.Proofs.YtfbajampfiodeaaW.PrintLast Go.Proofs.YtfbajampfiodeaaW.PrintMore Go.Proofs.Ytfbajampfiodeaa.Mw Go.Proofs.Ytfbajampfiodeaa.Rx Go.Proofs.Ytfbajampfiodeaa.RxOps Go.Proofs.Ytfbajampfiodeaa.Fresh Go.Proofs.Ytfbajampfiodeaa.RefAbs Go.Proofs.Ytfbajampfiodeaa.Hm Go.Proofs.Ytfbajampfiodeaa.Hash Go.Proofs.Ytfbajampfiodeaa.HashPut
set_option linter.unusedVariables false
abbrev kd : Int := 1
def Imp (w : World) (F : Nat → Prop) (g n : Nat) (sz : Int) (st : St) : Prop := ∃ bm gt, HIx w F g bm gt n sz st.ks
section
variable {w w' : World} {F F' : Nat → Prop} {g n : Nat} {sz : Int} {st : St}
theorem Imp.keep (h : Imp w F g n sz st) (hk : ∀ b, F b → w'.heap[b]? = w.heap[b]?) (hsz : w.heap.size ≤ w'.heap.size) : Imp w' F g n sz st := by
  obtain ⟨bm, gt, h⟩ := h; exact ⟨bm, gt, h.keep hk hsz⟩
theorem Imp.lt (h : Imp w F g n sz st) : ∀ b, F b → b < w.heap.size := by obtain ⟨bm, gt, h⟩ := h; exact h.lt
theorem Imp.more (h : Imp w F g n sz st) : Imp w F g (n + 1) sz st := by obtain ⟨bm, gt, h⟩ := h; exact ⟨bm, gt, h.more (Nat.le_succ _)⟩
theorem fnd_ks (l : List Int) : (fnd kd sz st l).2.ks = st.ks := by unfold fnd; split <;> rfl
theorem imp_find (h : Imp w F g n sz st) (A : Option Addr) (c : Nat) (l : List Int) (hC : Kd.C (Kd.int .u8) w A l.length l) (hl : l.length ≤ c) (hlb : ∀ x ∈ l, 0 ≤ x ∧ x ≤ 255) (hA : ∀ ad, A = some ad → 0 < l.length → ¬ F ad.block) :
    Calls Try.prog 33 #[.pointer (some ⟨g, 0, none⟩), .slice A l.length c] w fun e w' => e = .returned (.tuple #[.int .i64 (max (fnd kd sz st l).1 0), .bool (decide (0 ≤ (fnd kd sz st l).1))]) ∧ ∃ F', Imp w' F' g (n + 1) sz (fnd kd sz st l).2 ∧ Step w w' F F' := by
  obtain ⟨bm, gt, h⟩ := h
  have e : (fnd kd sz st l).1 = sameAt l st.ks 0 := by
    unfold fnd
    by_cases hz : (l.length : Int) = sz
    · rw [if_pos hz]
    · rw [if_neg hz, sameAt_len h.ok hz]
  rw [e]
  exact (Find_ h A c l hC hlb).mono fun e w' ⟨he, m, hm⟩ => ⟨he, F, ⟨bm, gt, by rw [fnd_ks]; exact hm ▸ (h.drewN m).more (Nat.le_succ _)⟩, hm ▸ (Step.refl w F).drewN m⟩
theorem imp_put (h : Imp w F g n sz st) (hn : n < 1099511627776) (A : Option Addr) (c : Nat) (l : List Int) (f : Int) (hC : Kd.C (Kd.int .u8) w A l.length l) (hl : l.length ≤ c) (hlb : ∀ x ∈ l, 0 ≤ x ∧ x ≤ 255) (hA : ∀ ad, A = some ad → 0 < l.length → ¬ F ad.block) :
    Calls Try.prog 35 #[.pointer (some ⟨g, 0, none⟩), .slice A l.length c, .int .u64 f] w fun e w' => e = .returned (.tuple #[.int .i64 (put kd sz st l f).1.1, .bool (put kd sz st l f).1.2.1, .int .i64 (put kd sz st l f).1.2.2]) ∧ ∃ F', Imp w' F' g (n + 1) sz (put kd sz st l f).2 ∧ Step w w' F F' := by
  obtain ⟨bm, gt, h⟩ := h
  have old : ∀ (a : Int × Bool × Int), putOld kd sz st.ks l f = some a → Calls Try.prog 35 #[.pointer (some ⟨g, 0, none⟩), .slice A l.length c, .int .u64 f] w (fun e w' => e = .returned (.tuple #[.int .i64 a.1, .bool a.2.1, .int .i64 a.2.2]) ∧ ∃ n, w' = w.drewN n) →
      Calls Try.prog 35 #[.pointer (some ⟨g, 0, none⟩), .slice A l.length c, .int .u64 f] w fun e w' => e = .returned (.tuple #[.int .i64 (put kd sz st l f).1.1, .bool (put kd sz st l f).1.2.1, .int .i64 (put kd sz st l f).1.2.2]) ∧ ∃ F', Imp w' F' g (n + 1) sz (put kd sz st l f).2 ∧ Step w w' F F' := by
    intro a ha hc
    rw [show put kd sz st l f = (a, st) by unfold put; rw [ha]]
    exact hc.mono fun e w' ⟨he, n, hn⟩ => ⟨he, F, ⟨bm, gt, hn ▸ (h.drewN n).more (Nat.le_succ _)⟩, hn ▸ (Step.refl w F).drewN n⟩
  by_cases hz : (l.length : Int) = sz
  · by_cases hf : f > 2
    · exact old (0, false, 72) (by unfold putOld; rw [if_neg (by simpa using hz), if_pos hf]) ((Put_flags h A c l f hC hlb hz hf).mono fun e w' ⟨h1, h2⟩ => ⟨h1, 0, h2 ▸ rfl⟩)
    · rcases same_slot l st.ks with hs | ⟨i, hs, hi⟩
      · by_cases hf2 : f = 2
        · subst hf2
          exact old (0, false, 14) (by unfold putOld; rw [if_neg (by simpa using hz), if_neg hf, if_neg (fun h => absurd h.1 (by decide)), if_neg (by omega), if_pos ⟨by omega, rfl⟩]) (Put_none h A c l hC hlb hz (by omega))
        · rcases free_bound st.ks 0 with hfr | ⟨r, hfr, _, hr⟩
          · exact old (0, false, 71) (by unfold putOld; rw [if_neg (by simpa using hz), if_neg hf, if_neg (fun h => absurd h.1 (by decide)), if_neg (by omega), if_neg (by omega), if_pos ⟨by omega, by omega, by decide⟩]) (Put_full h A c l f hC hlb hz hf hf2 (by omega) hfr)
          · have e : put kd sz st l f = (((r : Int), true, 0), ⟨st.ks.set r (some l), touched st.wn (r : Int) (st.ck + 1), st.ck + 1⟩) := by
              have e1 : putOld kd sz st.ks l f = none := by unfold putOld; rw [if_neg (by simpa using hz), if_neg hf, if_neg (fun h => absurd h.1 (by decide)), if_neg (by omega), if_neg (by omega), if_neg (by omega)]
              have e2 : slotFor st.ks st.wn = (r : Int) := by unfold slotFor; rw [if_neg (by omega), hfr]
              unfold put
              rw [e1]
              simp only [e2]
              rw [if_neg (by omega), Int.toNat_natCast]
            rw [e]
            exact (Put_new h A c l f hC hlb hz hf hf2 hn (by omega) r hfr (by omega)).mono fun e w' ⟨he, hR, hS⟩ => ⟨he, F, ⟨bm, gt, hR⟩, hS⟩
      · by_cases hf1 : f = 1
        · subst hf1
          exact old (0, false, 70) (by unfold putOld; rw [if_neg (by simpa using hz), if_neg hf, if_neg (fun h => absurd h.1 (by decide)), if_pos ⟨by omega, rfl⟩]) (Put_exist h A c l hC hlb hz i hs)
        · have e : put kd sz st l f = (((i : Int), false, 0), ⟨st.ks, touched st.wn (i : Int) (st.ck + 1), st.ck + 1⟩) := by
            have e1 : putOld kd sz st.ks l f = none := by unfold putOld; rw [if_neg (by simpa using hz), if_neg hf, if_neg (fun h => absurd h.1 (by decide)), if_neg (by omega), if_neg (by omega), if_neg (by omega)]
            unfold put
            rw [e1]
            simp only [hs]
            rw [if_pos (by omega)]
          rw [e]
          exact (Put_again h A c l f hC hlb hz hf hf1 i hs).mono fun e w' ⟨he, n, hn⟩ => ⟨he, F, ⟨bm, gt, hn ▸ (h.drewN n).more (Nat.le_succ _)⟩, hn ▸ (Step.refl w F).drewN n⟩
  · exact old (0, false, 2) (by unfold putOld; rw [if_pos hz]) ((Put_bad h A c l f hC hlb hz).mono fun e w' ⟨h1, h2⟩ => ⟨h1, 0, h2 ▸ rfl⟩)
theorem imp_del (h : Imp w F g n sz st) (A : Option Addr) (c : Nat) (l : List Int) (hC : Kd.C (Kd.int .u8) w A l.length l) (hl : l.length ≤ c) (hlb : ∀ x ∈ l, 0 ≤ x ∧ x ≤ 255) (hA : ∀ ad, A = some ad → 0 < l.length → ¬ F ad.block) :
    Calls Try.prog 34 #[.pointer (some ⟨g, 0, none⟩), .slice A l.length c] w fun e w' => e = .returned (.tuple #[.int .i64 (del kd sz st l).1.1, .int .i64 (del kd sz st l).1.2]) ∧ ∃ F', Imp w' F' g (n + 1) sz (del kd sz st l).2 ∧ Step w w' F F' := by
  obtain ⟨bm, gt, h⟩ := h
  by_cases hz : (l.length : Int) = sz
  · rcases same_slot l st.ks with e | ⟨i, e, hi⟩
    · rw [show del kd sz st l = ((0, 14), st) by unfold del; rw [if_neg (fun h => h.elim (by decide) (fun h => h hz)), if_pos (by omega)]]
      exact (Del_none h A c l hC hlb hz (by omega)).mono fun e w' ⟨he, n, hn⟩ => ⟨he, F, ⟨bm, gt, hn ▸ (h.drewN n).more (Nat.le_succ _)⟩, hn ▸ (Step.refl w F).drewN n⟩
    · rw [show del kd sz st l = (((i : Int), 0), ⟨st.ks.set i none, st.wn, st.ck⟩) by unfold del; rw [if_neg (fun h => h.elim (by decide) (fun h => h hz)), if_neg (by omega), e, Int.toNat_natCast]]
      exact (Del_ h A c l hC hlb hz i e hi).mono fun e w' ⟨he, hR, hS⟩ => ⟨he, F, ⟨bm, gt, hR.more (Nat.le_succ _)⟩, hS⟩
  · rw [show del kd sz st l = ((0, 2), st) by unfold del; rw [if_pos (.inr hz)]]
    exact (Del_bad h A c l hC hlb hz).mono fun e w' ⟨he, hn⟩ => ⟨he, F, ⟨bm, gt, hn ▸ h.more (Nat.le_succ _)⟩, hn ▸ Step.refl w F⟩
theorem imp_keys (h : Imp w F g n sz st) :
    Calls Try.prog 32 #[.pointer (some ⟨g, 0, none⟩)] w fun e w' => ∃ v, e = .returned v ∧ FreshRows w' w.heap.size v (keys st) ∧ Below w.heap.size w w' := by
  obtain ⟨bm, gt, h⟩ := h
  exact HashKeys.Keys_ h
theorem imp_copy (h : Imp w F g n sz st) :
    Calls Try.prog 36 #[.pointer (some ⟨g, 0, none⟩)] w fun e w' => ∃ F' g', e = .returned (.pointer (some ⟨g', 0, none⟩)) ∧ Imp w' F' g' n sz st ∧ (∀ b, F' b → w.heap.size ≤ b) ∧ Below w.heap.size w w' := by
  obtain ⟨bm, gt, h⟩ := h
  exact (HashCopy.Copy_ h).mono fun e w' ⟨F', g', bm', gt', he, hR, hF, hB⟩ => ⟨F', g', he, ⟨bm', gt', hR⟩, hF, hB⟩
end
/-- A nil one refuses. -/
theorem nil_find (A : Option Addr) (l c : Nat) (w : World) : Calls Try.prog 33 #[.pointer none, .slice A l c] w fun e w' => e = .returned (.tuple #[.int .i64 0, .bool false]) ∧ w = w' := Hash.Find_nil A l c w
theorem nil_put (A : Option Addr) (l c : Nat) (f : Int) (w : World) : Calls Try.prog 35 #[.pointer none, .slice A l c, .int .u64 f] w fun e w' => e = .returned (.tuple #[.int .i64 0, .bool false, .int .i64 1]) ∧ w = w' := Hash.Put_nil A l c f w
theorem nil_del (A : Option Addr) (l c : Nat) (w : World) : Calls Try.prog 34 #[.pointer none, .slice A l c] w fun e w' => e = .returned (.tuple #[.int .i64 0, .int .i64 1]) ∧ w = w' := Hash.Del_nil A l c w
theorem nil_keys (w : World) : Calls Try.prog 32 #[.pointer none] w fun e w' => e = .returned (.slice none 0 0) ∧ w = w' := Hash.Keys_nil w
theorem nil_copy (w : World) : Calls Try.prog 36 #[.pointer none] w fun e w' => e = .returned (.pointer none) ∧ w = w' := Hash.Copy_nil w
/-- The sizes that may be. -/
def SzOk (s m : Int) : Prop := 1 ≤ s ∧ s ≤ 16 ∧ 1 ≤ m ∧ m ≤ 64
abbrev szOf (s : Int) : Int := s
abbrev st0 (m : Int) : St := ⟨List.replicate m.toNat none, List.replicate m.toNat 0, 0⟩
/-- Both are made. -/
theorem new_both (s m : Int) (h : SzOk s m) :
    (∀ w, Calls Try.prog 29 #[.int .i64 s, .int .i64 m] w fun e w' => ∃ F g, e = .returned (.tuple #[.pointer (some ⟨g, 0, none⟩), .int .i64 0]) ∧ Imp w' F g 0 (szOf s) (st0 m) ∧ (∀ b, F b → w.heap.size ≤ b) ∧ Below w.heap.size w w') ∧
    (∀ w, Calls Try.prog 18 #[.int .i64 1, .int .i64 s, .int .i64 m] w fun e w' => ∃ F g, e = .returned (.tuple #[.pointer (some ⟨g, 0, none⟩), .bool true]) ∧ RI w' F g kd (szOf s) (st0 m) ∧ (∀ b, F b → w.heap.size ≤ b) ∧ Below w.heap.size w w') := by
  obtain ⟨k, rfl⟩ := Int.eq_ofNat_of_zero_le (show 0 ≤ m by have := h.2.2.1; omega)
  obtain ⟨h1, h2, h3, h4⟩ := h
  exact ⟨fun w => (New_ok s k w h1 h2 (by omega) (by omega)).mono fun e w' ⟨F, g, bm, gt, he, hI, hF, hB⟩ => ⟨F, g, he, ⟨bm, gt, hI⟩, hF, hB⟩,
   fun w => (RxNew.New1_ok s k w h1 h2 (by omega) (by omega)).mono fun e w' ⟨F, g, gs, gw, he, hI, hF, hB⟩ => ⟨F, g, he, ⟨gs, gw, _, hI⟩, hF, hB⟩⟩
theorem new_bad (s m : Int) (h : ¬ SzOk s m) :
    (∀ w, Calls Try.prog 29 #[.int .i64 s, .int .i64 m] w fun e w' => e = .returned (.tuple #[.pointer none, .int .i64 2]) ∧ w = w') ∧
    (∀ w, Calls Try.prog 18 #[.int .i64 1, .int .i64 s, .int .i64 m] w fun e w' => e = .returned (.tuple #[.pointer none, .bool false]) ∧ w = w') := by
  unfold SzOk at h
  exact ⟨fun w => New_bad s m w (by omega), fun w => RxNew.New1_bad s m w (by omega)⟩
end Go.Proofs.Ytfbajampfiodeaa.Imp07
