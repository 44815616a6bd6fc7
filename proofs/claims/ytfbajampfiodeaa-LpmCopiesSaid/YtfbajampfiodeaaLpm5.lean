/- An index of prefixes as an abstract machine: its state, its calls. The document's index of the kind 3 as the abstract machine of the prefixes. lpm.Index as the abstract machine of the prefixes. -/
import Derived.Test.YtfbajampfiodeaaLpm1
import Derived.Test.YtfbajampfiodeaaRefAbs
import Derived.Test.YtfbajampfiodeaaLpm4
import Derived.Test.YtfbajampfiodeaaFresh
import Derived.Test.YtfbajampfiodeaaLpm3
namespace Go.Proofs.Ytfbajampfiodeaa.LpmM
open Go.RowKit Go.Proofs.Ytfbajampfiodeaa.PArrayPlays Go.Proofs.YtfbajampfiodeaaW.PrintWords Go.Proofs.YtfbajampfiodeaaW.PrintLast Go.Proofs.YtfbajampfiodeaaW.PrintMore Go.Proofs.Ytfbajampfiodeaa.Mw Go.Proofs.Ytfbajampfiodeaa.Rx Go.Proofs.Ytfbajampfiodeaa.RxOps Go.Proofs.Ytfbajampfiodeaa.LpmB Go.Proofs.Ytfbajampfiodeaa.LpmF
set_option linter.unusedVariables false
abbrev St := RefAbs.St
abbrev keys (st : St) : List (List Int) := RefAbs.keys st
def fit (sz : Int) (l : List Int) : Bool := decide ((l.length : Int) = sz) && decide (nb l ≤ 8 * (sz - 4))
theorem fit_in {sz : Int} {l : List Int} (h : fit sz l = true) (hb : Bs l) : InOk sz l := by
  unfold fit at h
  simp only [Bool.and_eq_true, decide_eq_true_eq] at h
  exact ⟨h.1, hb, h.2⟩
theorem fit_out {sz : Int} {l : List Int} (h : fit sz l = false) : ¬ InOk sz l := by
  unfold fit at h
  intro k
  rw [decide_eq_true k.1, decide_eq_true k.2.2] at h
  cases h
def fnd (kd sz : Int) (st : St) (l : List Int) : Int × St :=
  if fit sz l then (find3 st.ks l, ⟨st.ks, touched st.wn (find3 st.ks l) (st.ck + 1), st.ck + 1⟩) else (-1, st)
def put (kd sz : Int) (st : St) (l : List Int) (f : Int) : (Int × Bool × Int) × St :=
  if fit sz l then
    if f > 2 then ((0, false, 72), st)
    else if 0 ≤ sameAt (cut l) st.ks 0 then
      if f = 1 then ((0, false, 70), st)
      else ((sameAt (cut l) st.ks 0, false, 0), ⟨st.ks, touched st.wn (sameAt (cut l) st.ks 0) (st.ck + 1), st.ck + 1⟩)
    else if f = 2 then ((0, false, 14), st)
    else if freeAt st.ks 0 < 0 then ((0, false, 71), st)
    else ((freeAt st.ks 0, true, 0), ⟨st.ks.set (freeAt st.ks 0).toNat (some (cut l)), touched st.wn (freeAt st.ks 0) (st.ck + 1), st.ck + 1⟩)
  else ((0, false, 2), st)
def del (kd sz : Int) (st : St) (l : List Int) : (Int × Int) × St :=
  if fit sz l then
    if sameAt (cut l) st.ks 0 < 0 then ((0, 14), st)
    else ((sameAt (cut l) st.ks 0, 0), ⟨st.ks.set (sameAt (cut l) st.ks 0).toNat none, st.wn, st.ck⟩)
  else ((0, 2), st)
theorem fnd_ck (kd sz : Int) (st : St) (l : List Int) : st.ck ≤ (fnd kd sz st l).2.ck ∧ (fnd kd sz st l).2.ck ≤ st.ck + 1 := by
  unfold fnd; split <;> simp <;> omega
theorem put_ck (kd sz : Int) (st : St) (l : List Int) (f : Int) : st.ck ≤ (put kd sz st l f).2.ck ∧ (put kd sz st l f).2.ck ≤ st.ck + 1 := by
  unfold put; repeat' split
  all_goals simp <;> omega
theorem del_ck (kd sz : Int) (st : St) (l : List Int) : st.ck ≤ (del kd sz st l).2.ck ∧ (del kd sz st l).2.ck ≤ st.ck + 1 := by
  unfold del; repeat' split
  all_goals simp <;> omega
theorem fnd_ks (kd sz : Int) (st : St) (l : List Int) : (fnd kd sz st l).2.ks = st.ks := by unfold fnd; split <;> rfl
/-- The document's index lies at g, in the blocks F. -/
def RI (w : World) (F : Nat → Prop) (g : Nat) (kd sz : Int) (st : St) : Prop := ∃ gs gw mx, RIx w F g gs gw kd sz mx st.ck st.ks st.wn ∧ KsOk sz st.ks
section
variable {w w' : World} {F F' : Nat → Prop} {g : Nat} {kd sz : Int} {st : St}
theorem RI.keep (h : RI w F g kd sz st) (hk : ∀ b, F b → w'.heap[b]? = w.heap[b]?) (hsz : w.heap.size ≤ w'.heap.size) : RI w' F g kd sz st := by
  obtain ⟨gs, gw, mx, h, h2⟩ := h; exact ⟨gs, gw, mx, h.keep hk hsz, h2⟩
theorem RI.lt (h : RI w F g kd sz st) : ∀ b, F b → b < w.heap.size := by obtain ⟨gs, gw, mx, h, _⟩ := h; exact h.lt
theorem RI.abs (h : RI w F g kd sz st) : RefAbs.RI w F g kd sz st := by obtain ⟨gs, gw, mx, h, _⟩ := h; exact ⟨gs, gw, mx, h⟩
theorem RI.rows (h : RI w F g kd sz st) : (keys st).length ≤ 64 ∧ ∀ l ∈ keys st, 0 < l.length ∧ l.length ≤ 16 ∧ ∀ x ∈ l, 0 ≤ x ∧ x ≤ 255 := RefAbs.RI.rows h.abs
end
end Go.Proofs.Ytfbajampfiodeaa.LpmM
namespace Go.Proofs.Ytfbajampfiodeaa.LpmM
open Go.RowKit Go.Proofs.Ytfbajampfiodeaa.PArrayPlays Go.Proofs.YtfbajampfiodeaaW.PrintWords Go.Proofs.YtfbajampfiodeaaW.PrintLast Go.Proofs.YtfbajampfiodeaaW.PrintMore Go.Proofs.Ytfbajampfiodeaa.Mw Go.Proofs.Ytfbajampfiodeaa.Rx Go.Proofs.Ytfbajampfiodeaa.RxOps Go.Proofs.Ytfbajampfiodeaa.Fresh Go.Proofs.Ytfbajampfiodeaa.LpmB Go.Proofs.Ytfbajampfiodeaa.LpmF Go.Proofs.Ytfbajampfiodeaa.LpmS Go.Proofs.Ytfbajampfiodeaa.LpmU
set_option linter.unusedVariables false
section
variable {w w' : World} {F F' : Nat → Prop} {g : Nat} {sz : Int} {st : St}
theorem RI.drewN (h : RI w F g 3 sz st) (n : Nat) : RI (w.drewN n) F g 3 sz st := h.keep (fun _ _ => rfl) (Nat.le_refl _)
theorem RI.below (h : RI w F g 3 sz st) (hb : Below w.heap.size w w') : RI w' F g 3 sz st := h.keep (fun b hF => hb.block b (h.lt b hF)) hb.size
theorem ref_find (h : RI w F g 3 sz st) (hkd : (3 : Int) = 3) (hck : st.ck < 4611686018427387904) (A : Option Addr) (c : Nat) (l : List Int) (hC : Kd.C (Kd.int .u8) w A l.length l) (hl : l.length ≤ c) (hlb : ∀ x ∈ l, 0 ≤ x ∧ x ≤ 255) :
    Calls Try.prog 58 #[.pointer (some ⟨g, 0, none⟩), .slice A l.length c] w fun e w' => e = .returned (.int .i64 (fnd 3 sz st l).1) ∧ ∃ F', RI w' F' g 3 sz (fnd 3 sz st l).2 ∧ Step w w' F F' := by
  have hR := h
  obtain ⟨gs, gw, mx, h, hk⟩ := h
  cases hf : fit sz l with
  | true =>
    rw [show fnd 3 sz st l = (find3 st.ks l, ⟨st.ks, touched st.wn (find3 st.ks l) (st.ck + 1), st.ck + 1⟩) by unfold fnd; rw [hf, if_pos rfl]]
    exact (Find_3 h hk hck A c l hC hl (fit_in hf hlb)).mono fun e w' ⟨he, hR, hS⟩ => ⟨he, F, ⟨gs, gw, mx, hR, hk⟩, hS⟩
  | false =>
    rw [show fnd 3 sz st l = (-1, st) by unfold fnd; rw [hf]; rfl]
    exact (Find_no h hk.1 A c l hC hl hlb (fit_out hf)).mono fun e w' ⟨he, n, hn⟩ => ⟨he, F, hn ▸ hR.drewN n, hn ▸ (Step.refl w F).drewN n⟩
theorem ref_put (h : RI w F g 3 sz st) (hkd : (3 : Int) = 3) (hck : st.ck < 4611686018427387904) (A : Option Addr) (c : Nat) (l : List Int) (f : Int) (hC : Kd.C (Kd.int .u8) w A l.length l) (hl : l.length ≤ c) (hlb : ∀ x ∈ l, 0 ≤ x ∧ x ≤ 255) :
    Calls Try.prog 59 #[.pointer (some ⟨g, 0, none⟩), .slice A l.length c, .int .u64 f] w fun e w' => e = .returned (.tuple #[.int .i64 (put 3 sz st l f).1.1, .bool (put 3 sz st l f).1.2.1, .int .i64 (put 3 sz st l f).1.2.2]) ∧ ∃ F', RI w' F' g 3 sz (put 3 sz st l f).2 ∧ Step w w' F F' := by
  have hR := h
  obtain ⟨gs, gw, mx, h, hk⟩ := h
  cases hf : fit sz l with
  | false =>
    rw [show put 3 sz st l f = ((0, false, 2), st) by unfold put; rw [hf]; rfl]
    exact (Put_no3 h hk.1 A c l f hC hl hlb (fit_out hf)).mono fun e w' ⟨he, n, hn⟩ => ⟨he, F, hn ▸ hR.drewN n, hn ▸ (Step.refl w F).drewN n⟩
  | true =>
    have hin := fit_in hf hlb
    by_cases hf2 : f > 2
    · rw [show put 3 sz st l f = ((0, false, 72), st) by unfold put; rw [hf, if_pos rfl, if_pos hf2]]
      exact (Put_fl3 h hk.1 A c l f hC hl hin hf2).mono fun e w' ⟨he, n, hn⟩ => ⟨he, F, hn ▸ hR.drewN n, hn ▸ (Step.refl w F).drewN n⟩
    · rcases same_slot (cut l) st.ks with hs | ⟨i, hs, hi⟩
      · by_cases h2 : f = 2
        · subst h2
          rw [show put 3 sz st l 2 = ((0, false, 14), st) by unfold put; rw [hf, if_pos rfl, if_neg hf2, if_neg (by omega), if_pos rfl]]
          exact (Put_nn3 h hk.1 A c l hC hl hin hs).mono fun e w' ⟨he, hB⟩ => ⟨he, F, hR.below hB, Step.of_below hB F⟩
        · rcases free_bound st.ks 0 with hfr | ⟨r, hfr, _, hr⟩
          · rw [show put 3 sz st l f = ((0, false, 71), st) by unfold put; rw [hf, if_pos rfl, if_neg hf2, if_neg (by omega), if_neg h2, if_pos (by omega)]]
            exact (Put_fu3 h hk.1 A c l f hC hl hin hf2 h2 hs hfr).mono fun e w' ⟨he, hB⟩ => ⟨he, F, hR.below hB, Step.of_below hB F⟩
          · rw [show put 3 sz st l f = (((r : Int), true, 0), ⟨st.ks.set r (some (cut l)), touched st.wn (r : Int) (st.ck + 1), st.ck + 1⟩) by unfold put; rw [hf, if_pos rfl, if_neg hf2, if_neg (by omega), if_neg h2, if_neg (by omega), hfr, Int.toNat_natCast]]
            exact (Put_ne3 h hk.1 A c l f hC hl hck hk hin hf2 h2 hs r hfr (by omega)).mono fun e w' ⟨he, F', hP, hS⟩ => ⟨he, F', ⟨gs, gw, mx, hP, hk.set_ r _ (fun l' e => by cases e; exact cutOk hin hk.1)⟩, hS⟩
      · by_cases h1 : f = 1
        · subst h1
          rw [show put 3 sz st l 1 = ((0, false, 70), st) by unfold put; rw [hf, if_pos rfl, if_neg hf2, if_pos (by omega), if_pos rfl]]
          exact (Put_ex3 h hk.1 A c l hC hl hin i hs).mono fun e w' ⟨he, hB⟩ => ⟨he, F, hR.below hB, Step.of_below hB F⟩
        · rw [show put 3 sz st l f = (((i : Int), false, 0), ⟨st.ks, touched st.wn (i : Int) (st.ck + 1), st.ck + 1⟩) by unfold put; rw [hf, if_pos rfl, if_neg hf2, if_pos (by omega), if_neg h1, hs]]
          exact (Put_ag3 h hk.1 A c l f hC hl hck hin hf2 h1 i hi hs).mono fun e w' ⟨he, hP, hS⟩ => ⟨he, F, ⟨gs, gw, mx, hP, hk⟩, hS⟩
theorem ref_del (h : RI w F g 3 sz st) (hkd : (3 : Int) = 3) (A : Option Addr) (c : Nat) (l : List Int) (hC : Kd.C (Kd.int .u8) w A l.length l) (hl : l.length ≤ c) (hlb : ∀ x ∈ l, 0 ≤ x ∧ x ≤ 255) :
    Calls Try.prog 60 #[.pointer (some ⟨g, 0, none⟩), .slice A l.length c] w fun e w' => e = .returned (.tuple #[.int .i64 (del 3 sz st l).1.1, .int .i64 (del 3 sz st l).1.2]) ∧ ∃ F', RI w' F' g 3 sz (del 3 sz st l).2 ∧ Step w w' F F' := by
  have hR := h
  obtain ⟨gs, gw, mx, h, hk⟩ := h
  cases hf : fit sz l with
  | false =>
    rw [show del 3 sz st l = ((0, 2), st) by unfold del; rw [hf]; rfl]
    exact (Del_no3 h hk.1 A c l hC hl hlb (fit_out hf)).mono fun e w' ⟨he, n, hn⟩ => ⟨he, F, hn ▸ hR.drewN n, hn ▸ (Step.refl w F).drewN n⟩
  | true =>
    have hin := fit_in hf hlb
    rcases same_slot (cut l) st.ks with hs | ⟨i, hs, hi⟩
    · rw [show del 3 sz st l = ((0, 14), st) by unfold del; rw [hf, if_pos rfl, if_pos (by omega)]]
      exact (Del_nn3 h hk.1 A c l hC hl hin hs).mono fun e w' ⟨he, hB⟩ => ⟨he, F, hR.below hB, Step.of_below hB F⟩
    · rw [show del 3 sz st l = (((i : Int), 0), ⟨st.ks.set i none, st.wn, st.ck⟩) by unfold del; rw [hf, if_pos rfl, if_neg (by omega), hs, Int.toNat_natCast]]
      exact (Del_3 h hk.1 A c l hC hl hin i hi hs).mono fun e w' ⟨he, hP, hS⟩ => ⟨he, F, ⟨gs, gw, mx, hP, hk.set_ i _ (fun l' e => by cases e)⟩, hS⟩
theorem ref_keys (h : RI w F g 3 sz st) :
    Calls Try.prog 22 #[.pointer (some ⟨g, 0, none⟩)] w fun e w' => ∃ v, e = .returned v ∧ FreshRows w' w.heap.size v (keys st) ∧ Below w.heap.size w w' := RefAbs.ref_keys h.abs
theorem ref_copy (h : RI w F g 3 sz st) :
    Calls Try.prog 27 #[.pointer (some ⟨g, 0, none⟩)] w fun e w' => ∃ F' g', e = .returned (.pointer (some ⟨g', 0, none⟩)) ∧ RI w' F' g' 3 sz st ∧ (∀ b, F' b → w.heap.size ≤ b) ∧ Below w.heap.size w w' := by
  obtain ⟨gs, gw, mx, h, hk⟩ := h
  exact (RxCopy.Copy_ h).mono fun e w' ⟨F', g', gs', gw', he, hR, hF, hB⟩ => ⟨F', g', he, ⟨gs', gw', mx, hR, hk⟩, hF, hB⟩
end
end Go.Proofs.Ytfbajampfiodeaa.LpmM
namespace Go.Proofs.Ytfbajampfiodeaa.LpmI
open Go.RowKit Go.Proofs.Ytfbajampfiodeaa.PArrayPlays Go.Proofs.YtfbajampfiodeaaW.PrintWords Go.Proofs.YtfbajampfiodeaaW.PrintLast Go.Proofs.YtfbajampfiodeaaW.PrintMore Go.Proofs.Ytfbajampfiodeaa.Mw Go.Proofs.Ytfbajampfiodeaa.Rx Go.Proofs.Ytfbajampfiodeaa.RxOps Go.Proofs.Ytfbajampfiodeaa.Fresh Go.Proofs.Ytfbajampfiodeaa.LpmB Go.Proofs.Ytfbajampfiodeaa.LpmF Go.Proofs.Ytfbajampfiodeaa.LpmT Go.Proofs.Ytfbajampfiodeaa.LpmX Go.Proofs.Ytfbajampfiodeaa.LpmM
set_option linter.unusedVariables false
def Imp (w : World) (F : Nat → Prop) (g n : Nat) (sz : Int) (st : St) : Prop := ∃ gk N, PIx w F g gk sz st.ks N
section
variable {w w' : World} {F F' : Nat → Prop} {g n : Nat} {sz : Int} {st : St}
theorem Imp.keep (h : Imp w F g n sz st) (hk : ∀ b, F b → w'.heap[b]? = w.heap[b]?) (hsz : w.heap.size ≤ w'.heap.size) : Imp w' F g n sz st := by
  obtain ⟨gk, N, h⟩ := h; exact ⟨gk, N, h.keep hk hsz⟩
theorem Imp.lt (h : Imp w F g n sz st) : ∀ b, F b → b < w.heap.size := by obtain ⟨gk, N, h⟩ := h; exact h.lt
theorem Imp.more (h : Imp w F g n sz st) : Imp w F g (n + 1) sz st := h
theorem imp_find (h : Imp w F g n sz st) (A : Option Addr) (c : Nat) (l : List Int) (hC : Kd.C (Kd.int .u8) w A l.length l) (hl : l.length ≤ c) (hlb : ∀ x ∈ l, 0 ≤ x ∧ x ≤ 255) (hA : ∀ ad, A = some ad → 0 < l.length → ¬ F ad.block) :
    Calls Try.prog 52 #[.pointer (some ⟨g, 0, none⟩), .slice A l.length c] w fun e w' => e = .returned (.tuple #[.int .i64 (max (fnd 3 sz st l).1 0), .bool (decide (0 ≤ (fnd 3 sz st l).1))]) ∧ ∃ F', Imp w' F' g (n + 1) sz (fnd 3 sz st l).2 ∧ Step w w' F F' := by
  obtain ⟨gk, N, h⟩ := h
  unfold Imp
  rw [fnd_ks]
  cases hf : fit sz l with
  | true =>
    rw [show (fnd 3 sz st l).1 = find3 st.ks l by unfold fnd; rw [hf, if_pos rfl]]
    exact (Find_ h A c l hC hl (fit_in hf hlb)).mono fun e w' ⟨he, m, hm⟩ => ⟨he, F, ⟨gk, N, hm ▸ h.drewN m⟩, hm ▸ (Step.refl w F).drewN m⟩
  | false =>
    rw [show (fnd 3 sz st l).1 = -1 by unfold fnd; rw [hf]; rfl]
    exact (Find_bad h A c l hC hl hlb (fit_out hf)).mono fun e w' ⟨he, m, hm⟩ => ⟨he, F, ⟨gk, N, hm ▸ h.drewN m⟩, hm ▸ (Step.refl w F).drewN m⟩
theorem imp_put (h : Imp w F g n sz st) (hn : n < 1099511627776) (A : Option Addr) (c : Nat) (l : List Int) (f : Int) (hC : Kd.C (Kd.int .u8) w A l.length l) (hl : l.length ≤ c) (hlb : ∀ x ∈ l, 0 ≤ x ∧ x ≤ 255) (hA : ∀ ad, A = some ad → 0 < l.length → ¬ F ad.block) :
    Calls Try.prog 49 #[.pointer (some ⟨g, 0, none⟩), .slice A l.length c, .int .u64 f] w fun e w' => e = .returned (.tuple #[.int .i64 (put 3 sz st l f).1.1, .bool (put 3 sz st l f).1.2.1, .int .i64 (put 3 sz st l f).1.2.2]) ∧ ∃ F', Imp w' F' g (n + 1) sz (put 3 sz st l f).2 ∧ Step w w' F F' := by
  obtain ⟨gk, N, h⟩ := h
  cases hf : fit sz l with
  | false =>
    rw [show put 3 sz st l f = ((0, false, 2), st) by unfold put; rw [hf]; rfl]
    exact (Put_bad h A c l f hC hl hlb (fit_out hf)).mono fun e w' ⟨he, m, hm⟩ => ⟨he, F, ⟨gk, N, hm ▸ h.drewN m⟩, hm ▸ (Step.refl w F).drewN m⟩
  | true =>
    have hin := fit_in hf hlb
    by_cases hf2 : f > 2
    · rw [show put 3 sz st l f = ((0, false, 72), st) by unfold put; rw [hf, if_pos rfl, if_pos hf2]]
      exact (Put_flags h A c l f hC hl hin hf2).mono fun e w' ⟨he, m, hm⟩ => ⟨he, F, ⟨gk, N, hm ▸ h.drewN m⟩, hm ▸ (Step.refl w F).drewN m⟩
    · rcases same_slot (cut l) st.ks with hs | ⟨i, hs, hi⟩
      · by_cases h2 : f = 2
        · subst h2
          rw [show put 3 sz st l 2 = ((0, false, 14), st) by unfold put; rw [hf, if_pos rfl, if_neg hf2, if_neg (by omega), if_pos rfl]]
          exact (Put_none h A c l hC hl hin hA hs).mono fun e w' ⟨he, F', N', hP, hS⟩ => ⟨he, F', ⟨gk, N', hP⟩, hS⟩
        · rcases free_bound st.ks 0 with hfr | ⟨r, hfr, _, hr⟩
          · rw [show put 3 sz st l f = ((0, false, 71), st) by unfold put; rw [hf, if_pos rfl, if_neg hf2, if_neg (by omega), if_neg h2, if_pos (by omega)]]
            exact (Put_full h A c l f hC hl hin hA hf2 h2 hs hfr).mono fun e w' ⟨he, F', N', hP, hS⟩ => ⟨he, F', ⟨gk, N', hP⟩, hS⟩
          · rw [show put 3 sz st l f = (((r : Int), true, 0), ⟨st.ks.set r (some (cut l)), touched st.wn (r : Int) (st.ck + 1), st.ck + 1⟩) by unfold put; rw [hf, if_pos rfl, if_neg hf2, if_neg (by omega), if_neg h2, if_neg (by omega), hfr, Int.toNat_natCast]]
            exact (Put_new h A c l f hC hl hin hA hf2 h2 hs r hfr).mono fun e w' ⟨he, F', N', hP, hS⟩ => ⟨he, F', ⟨gk, N', hP⟩, hS⟩
      · by_cases h1 : f = 1
        · subst h1
          rw [show put 3 sz st l 1 = ((0, false, 70), st) by unfold put; rw [hf, if_pos rfl, if_neg hf2, if_pos (by omega), if_pos rfl]]
          exact (Put_exist h A c l hC hl hin hA i hs).mono fun e w' ⟨he, F', N', hP, hS⟩ => ⟨he, F', ⟨gk, N', hP⟩, hS⟩
        · rw [show put 3 sz st l f = (((i : Int), false, 0), ⟨st.ks, touched st.wn (i : Int) (st.ck + 1), st.ck + 1⟩) by unfold put; rw [hf, if_pos rfl, if_neg hf2, if_pos (by omega), if_neg h1, hs]]
          exact (Put_again h A c l f hC hl hin hA hf2 h1 i hs).mono fun e w' ⟨he, F', N', hP, hS⟩ => ⟨he, F', ⟨gk, N', hP⟩, hS⟩
theorem imp_del (h : Imp w F g n sz st) (A : Option Addr) (c : Nat) (l : List Int) (hC : Kd.C (Kd.int .u8) w A l.length l) (hl : l.length ≤ c) (hlb : ∀ x ∈ l, 0 ≤ x ∧ x ≤ 255) (hA : ∀ ad, A = some ad → 0 < l.length → ¬ F ad.block) :
    Calls Try.prog 55 #[.pointer (some ⟨g, 0, none⟩), .slice A l.length c] w fun e w' => e = .returned (.tuple #[.int .i64 (del 3 sz st l).1.1, .int .i64 (del 3 sz st l).1.2]) ∧ ∃ F', Imp w' F' g (n + 1) sz (del 3 sz st l).2 ∧ Step w w' F F' := by
  obtain ⟨gk, N, h⟩ := h
  cases hf : fit sz l with
  | false =>
    rw [show del 3 sz st l = ((0, 2), st) by unfold del; rw [hf]; rfl]
    exact (Del_bad h A c l hC hl hlb (fit_out hf)).mono fun e w' ⟨he, m, hm⟩ => ⟨he, F, ⟨gk, N, hm ▸ h.drewN m⟩, hm ▸ (Step.refl w F).drewN m⟩
  | true =>
    have hin := fit_in hf hlb
    rcases same_slot (cut l) st.ks with hs | ⟨i, hs, hi⟩
    · rw [show del 3 sz st l = ((0, 14), st) by unfold del; rw [hf, if_pos rfl, if_pos (by omega)]]
      exact (Del_none h A c l hC hl hin hA hs).mono fun e w' ⟨he, F', N', hP, hS⟩ => ⟨he, F', ⟨gk, N', hP⟩, hS⟩
    · rw [show del 3 sz st l = (((i : Int), 0), ⟨st.ks.set i none, st.wn, st.ck⟩) by unfold del; rw [hf, if_pos rfl, if_neg (by omega), hs, Int.toNat_natCast]]
      exact (Del_ h A c l hC hl hin hA i hs).mono fun e w' ⟨he, F', N', hP, hS⟩ => ⟨he, F', ⟨gk, N', hP⟩, hS⟩
theorem imp_keys (h : Imp w F g n sz st) :
    Calls Try.prog 50 #[.pointer (some ⟨g, 0, none⟩)] w fun e w' => ∃ v, e = .returned v ∧ FreshRows w' w.heap.size v (keys st) ∧ Below w.heap.size w w' := by
  obtain ⟨gk, N, h⟩ := h
  exact LpmY.Keys_ h
theorem imp_copy (h : Imp w F g n sz st) :
    Calls Try.prog 56 #[.pointer (some ⟨g, 0, none⟩)] w fun e w' => ∃ F' g', e = .returned (.pointer (some ⟨g', 0, none⟩)) ∧ Imp w' F' g' n sz st ∧ (∀ b, F' b → w.heap.size ≤ b) ∧ Below w.heap.size w w' := by
  obtain ⟨gk, N, h⟩ := h
  exact (LpmZ.Copy_ h).mono fun e w' ⟨F', g', gk', N', he, hR, hF, hB⟩ => ⟨F', g', he, ⟨gk', N', hR⟩, hF, hB⟩
theorem imp_bound (h : Imp w F g n sz st) : st.ks.length ≤ 64 ∧ KsOk sz st.ks := by obtain ⟨gk, N, h⟩ := h; exact ⟨h.len.2, h.ok⟩
end
abbrev st0 (m : Int) : St := ⟨List.replicate m.toNat none, List.replicate m.toNat 0, 0⟩
theorem new_imp (s m : Int) (h : 5 ≤ s ∧ s ≤ 16 ∧ 1 ≤ m ∧ m ≤ 64) (w : World) : Calls Try.prog 48 #[.int .i64 s, .int .i64 m] w fun e w' => ∃ F g, e = .returned (.tuple #[.pointer (some ⟨g, 0, none⟩), .int .i64 0]) ∧ Imp w' F g 0 s (st0 m) ∧ (∀ b, F b → w.heap.size ≤ b) ∧ Below w.heap.size w w' := by
  obtain ⟨k, rfl⟩ := Int.eq_ofNat_of_zero_le (show 0 ≤ m by omega)
  exact (LpmY.New_ok s k w h.1 h.2.1 (by omega) (by omega)).mono fun e w' ⟨F, g, gk, N, he, hI, hF, hB⟩ => ⟨F, g, he, ⟨gk, N, hI⟩, hF, hB⟩
end Go.Proofs.Ytfbajampfiodeaa.LpmI
