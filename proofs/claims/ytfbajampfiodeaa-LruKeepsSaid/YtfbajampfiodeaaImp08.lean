/- lru.Index as the abstract machine of the kind 2. -/
import Derived.Test.YtfbajampfiodeaaRefAbs
import Derived.Test.YtfbajampfiodeaaLruC
namespace Go.Proofs.Ytfbajampfiodeaa.Imp08
open Go.RowKit Go.Proofs.Ytfbajampfiodeaa.PArrayPlays Go.Proofs.YtfbajampfiodeaaW.PrintWords Go.Proofs.YtfbajampfiodeaaW.PrintLast Go.Proofs.YtfbajampfiodeaaW.PrintMore Go.Proofs.Ytfbajampfiodeaa.Mw Go.Proofs.Ytfbajampfiodeaa.Rx Go.Proofs.Ytfbajampfiodeaa.RxOps Go.Proofs.Ytfbajampfiodeaa.Fresh Go.Proofs.Ytfbajampfiodeaa.RefAbs Go.Proofs.Ytfbajampfiodeaa.Hm Go.Proofs.Ytfbajampfiodeaa.Hash Go.Proofs.Ytfbajampfiodeaa.Lru
set_option linter.unusedVariables false
abbrev kd : Int := 2
/-- The order, by the times. -/
structure Times (st : St) (ord : List Int) : Prop where
  mem : ∀ x ∈ ord, ∃ (i : Nat) (l : List Int), x = (i : Int) ∧ st.ks[i]? = some (some l)
  all : ∀ (i : Nat) (l : List Int), st.ks[i]? = some (some l) → (i : Int) ∈ ord
  inc : ord.Pairwise (fun a b => st.wn.getD a.toNat 0 < st.wn.getD b.toNat 0)
  le : ∀ x ∈ ord, st.wn.getD x.toNat 0 ≤ st.ck
  wl : st.wn.length = st.ks.length
theorem nodup_len : ∀ (n : Nat) (l : List Nat), l.Nodup → (∀ x ∈ l, x < n) → l.length ≤ n
  | 0, l, _, h => by
    cases l with
    | nil => simp
    | cons a t => exact absurd (h a List.mem_cons_self) (by omega)
  | n + 1, l, hn, h => by
    have h1 := nodup_len n (l.erase n) (hn.erase n) (fun x hx => by
      obtain ⟨h2, h3⟩ := (hn.mem_erase_iff).1 hx
      have := h x h3
      omega)
    by_cases hm : n ∈ l
    · rw [List.length_erase_of_mem hm] at h1
      omega
    · rw [List.erase_of_not_mem hm] at h1
      omega
theorem Times.len {st : St} {ord : List Int} (h : Times st ord) : ord.length ≤ st.ks.length := by
  have h1 := nodup_len st.ks.length (ord.map Int.toNat) (List.pairwise_map.2 (h.inc.imp (fun h e => by rw [e] at h; omega))) (fun x hx => by
    obtain ⟨y, hy, rfl⟩ := List.mem_map.1 hx
    obtain ⟨i, l, rfl, hi⟩ := h.mem y hy
    have := (List.getElem?_eq_some_iff.1 hi).1
    simpa using this)
  rw [List.length_map] at h1
  exact h1
theorem Times.tick {st : St} {ord : List Int} (h : Times st ord) : Times ⟨st.ks, st.wn, st.ck + 1⟩ ord := ⟨h.mem, h.all, h.inc, fun x hx => Int.le_trans (h.le x hx) (by show st.ck ≤ st.ck + 1; omega), h.wl⟩
theorem mem_drop {s x : Int} {ord : List Int} : x ∈ drop_ s ord ↔ x ∈ ord ∧ x ≠ s := by
  unfold drop_
  rw [List.mem_filter]
  simp
theorem touched_at (wn : List Int) (i : Nat) (c : Int) : touched wn (i : Int) c = wn.set i c := by unfold touched; rw [if_neg (by omega), Int.toNat_natCast]
theorem getD_set_ne {wn : List Int} {i j : Nat} {c : Int} (h : i ≠ j) : (wn.set i c).getD j 0 = wn.getD j 0 := by
  rw [List.getD_eq_getElem?_getD, List.getElem?_set_ne h, List.getD_eq_getElem?_getD]
theorem Times.set_ {st : St} {ord : List Int} (h : Times st ord) {i : Nat} (hi : i < st.ks.length) (l : List Int) : Times ⟨st.ks.set i (some l), touched st.wn (i : Int) (st.ck + 1), st.ck + 1⟩ (drop_ (i : Int) ord ++ [(i : Int)]) := by
  rw [touched_at]
  have hne : ∀ x ∈ drop_ (i : Int) ord, i ≠ x.toNat := fun x hx e => by
    obtain ⟨h1, h2⟩ := mem_drop.1 hx
    obtain ⟨j, _, rfl, _⟩ := h.mem x h1
    simp at e
    exact h2 (by rw [e])
  refine ⟨fun x hx => ?_, fun j l' hj => ?_, ?_, fun x hx => ?_, by show (st.wn.set i (st.ck + 1)).length = (st.ks.set i (some l)).length; rw [List.length_set, List.length_set, h.wl]⟩
  · rcases List.mem_append.1 hx with hx | hx
    · obtain ⟨j, l', rfl, hj⟩ := h.mem x (mem_drop.1 hx).1
      have := hne _ hx
      simp at this
      exact ⟨j, l', rfl, by show (st.ks.set i (some l))[j]? = _; rw [List.getElem?_set_ne this]; exact hj⟩
    · have := List.mem_singleton.1 hx
      exact ⟨i, l, this, by show (st.ks.set i (some l))[i]? = _; rw [List.getElem?_set_self hi]⟩
  · by_cases e : i = j
    · subst e
      exact List.mem_append.2 (.inr (List.mem_singleton.2 rfl))
    · refine List.mem_append.2 (.inl (mem_drop.2 ⟨h.all j l' ?_, by omega⟩))
      have hj2 : (st.ks.set i (some l))[j]? = some (some l') := hj
      rw [List.getElem?_set_ne e] at hj2
      exact hj2
  · refine List.pairwise_append.2 ⟨?_, by simp, fun a ha b hb => ?_⟩
    · refine (List.Pairwise.filter _ h.inc).imp_of_mem ?_
      intro a b ha hb hab
      show (st.wn.set i (st.ck + 1)).getD a.toNat 0 < (st.wn.set i (st.ck + 1)).getD b.toNat 0
      rw [getD_set_ne (hne a ha), getD_set_ne (hne b hb)]
      exact hab
    · obtain rfl := List.mem_singleton.1 hb
      show (st.wn.set i (st.ck + 1)).getD a.toNat 0 < (st.wn.set i (st.ck + 1)).getD (i : Int).toNat 0
      rw [getD_set_ne (hne a ha), Int.toNat_natCast, List.getD_eq_getElem?_getD (l := st.wn.set i (st.ck + 1)), List.getElem?_set_self (by rw [h.wl]; exact hi)]
      have := h.le a (mem_drop.1 ha).1
      show _ < st.ck + 1
      omega
  · show (st.wn.set i (st.ck + 1)).getD x.toNat 0 ≤ st.ck + 1
    rcases List.mem_append.1 hx with hx | hx
    · rw [getD_set_ne (hne x hx)]
      have := h.le x (mem_drop.1 hx).1
      omega
    · obtain rfl := List.mem_singleton.1 hx
      rw [Int.toNat_natCast, List.getD_eq_getElem?_getD, List.getElem?_set_self (by rw [h.wl]; exact hi)]
      exact Int.le_refl _
theorem set_same {ks : List (Option (List Int))} {i : Nat} {l : List Int} (h : ks[i]? = some (some l)) : ks.set i (some l) = ks := by
  refine List.ext_getElem? fun j => ?_
  by_cases e : i = j
  · subst e
    rw [List.getElem?_set_self (List.getElem?_eq_some_iff.1 h).1, h]
  · rw [List.getElem?_set_ne e]
theorem Times.hit {st : St} {ord : List Int} (h : Times st ord) {i : Nat} {l : List Int} (hi : st.ks[i]? = some (some l)) : Times ⟨st.ks, touched st.wn (i : Int) (st.ck + 1), st.ck + 1⟩ (drop_ (i : Int) ord ++ [(i : Int)]) := by
  have := h.set_ (List.getElem?_eq_some_iff.1 hi).1 l
  rw [set_same hi] at this
  exact this
theorem Times.del {st : St} {ord : List Int} (h : Times st ord) (i : Nat) : Times ⟨st.ks.set i none, st.wn, st.ck⟩ (drop_ (i : Int) ord) := by
  refine ⟨fun x hx => ?_, fun j l' hj => ?_, List.Pairwise.filter _ h.inc, fun x hx => h.le x (mem_drop.1 hx).1, by show st.wn.length = (st.ks.set i none).length; rw [List.length_set, h.wl]⟩
  · obtain ⟨h1, h2⟩ := mem_drop.1 hx
    obtain ⟨j, l', rfl, hj⟩ := h.mem x h1
    exact ⟨j, l', rfl, by show (st.ks.set i none)[j]? = _; rw [List.getElem?_set_ne (by rintro rfl; exact h2 rfl)]; exact hj⟩
  · have hj2 : (st.ks.set i none)[j]? = some (some l') := hj
    by_cases e : i = j
    · subst e
      rw [List.getElem?_set] at hj2
      split at hj2
      · split at hj2 <;> cases hj2
      · exact absurd rfl ‹¬ i = i›
    · rw [List.getElem?_set_ne e] at hj2
      exact mem_drop.2 ⟨h.all j l' hj2, by omega⟩
theorem oldest_min (wn : List Int) : ∀ k i, i < k → wn.getD (oldest wn k) 0 ≤ wn.getD i 0
  | 0, i, h => absurd h (by omega)
  | k + 1, i, h => by
    unfold oldest
    by_cases hc : wn.getD k 0 < wn.getD (oldest wn k) 0
    · rw [if_pos hc]
      by_cases e : i = k
      · rw [e]; exact Int.le_refl _
      · have := oldest_min wn k i (by omega); omega
    · rw [if_neg hc]
      by_cases e : i = k
      · rw [e]; omega
      · exact oldest_min wn k i (by omega)
theorem free_all : ∀ (ks : List (Option (List Int))) (i : Nat), freeAt ks i = -1 → ∀ j, j < ks.length → ∃ l, ks[j]? = some (some l)
  | [], i, _, j, hj => absurd hj (by simp)
  | k :: t, i, h, j, hj => by
    unfold freeAt at h
    cases k with
    | none => rw [if_pos rfl] at h; omega
    | some l =>
      rw [if_neg (by simp)] at h
      cases j with
      | zero => exact ⟨l, rfl⟩
      | succ j => exact free_all t (i + 1) h j (by simpa using hj)
/-- Where all is taken: the head of the order is the oldest. -/
theorem Times.old {st : St} {ord : List Int} (h : Times st ord) (h0 : 0 < st.ks.length) (hf : freeAt st.ks 0 = -1) : ∃ (i : Nat) (r : List Int) (l : List Int), ord = (i : Int) :: r ∧ st.ks[i]? = some (some l) ∧ oldest st.wn st.ks.length = i := by
  obtain ⟨l0, hl0⟩ := free_all _ _ hf 0 h0
  cases ho : ord with
  | nil =>
    have := h.all 0 l0 hl0
    rw [ho] at this
    cases this
  | cons x r =>
    obtain ⟨i, l, rfl, hi⟩ := h.mem x (by rw [ho]; exact List.mem_cons_self)
    refine ⟨i, r, l, rfl, hi, ?_⟩
    have hil : i < st.ks.length := (List.getElem?_eq_some_iff.1 hi).1
    have hol := oldest_lt st.wn st.ks.length st.ks.length (Nat.le_refl _) h0
    obtain ⟨l2, hl2⟩ := free_all _ _ hf _ hol
    have hin := h.all _ l2 hl2
    have hp := h.inc
    rw [ho] at hin hp
    rcases List.mem_cons.1 hin with e | hr
    · exact Int.ofNat.inj e
    · have h1 := (List.pairwise_cons.1 hp).1 _ hr
      have h2 := oldest_min st.wn st.ks.length i hil
      simp only [Int.toNat_natCast] at h1
      omega
theorem miss_set {l : List Int} {ks : List (Option (List Int))} (h : sameAt l ks 0 < 0) (i : Nat) : sameAt l (ks.set i none) 0 < 0 := by
  rcases same_slot l (ks.set i none) with e | ⟨j, e, hj⟩
  · omega
  · have h2 := same_some e
    exfalso
    by_cases e2 : i = j
    · subst e2
      rw [List.getElem?_set] at h2
      split at h2
      · split at h2 <;> cases h2
      · exact absurd rfl ‹¬ i = i›
    · rw [List.getElem?_set_ne e2] at h2
      exact same_none' h j h2
theorem map_set_some (ks : List (Option (List Int))) (i : Nat) (k : Option (List Int)) : (ks.map Option.isSome).set i k.isSome = (ks.set i k).map Option.isSome := by rw [List.map_set]
def Imp (w : World) (F : Nat → Prop) (g n : Nat) (sz : Int) (st : St) : Prop := ∃ bm gk gt ct V ord, LIx w F g bm gk gt ct sz st.ks (st.ks.map Option.isSome) V ord ∧ ct ≤ n + 64 ∧ Times st ord
section
variable {w w' : World} {F F' : Nat → Prop} {g n : Nat} {sz : Int} {st : St}
theorem Imp.keep (h : Imp w F g n sz st) (hk : ∀ b, F b → w'.heap[b]? = w.heap[b]?) (hsz : w.heap.size ≤ w'.heap.size) : Imp w' F g n sz st := by
  obtain ⟨bm, gk, gt, ct, V, ord, h, r⟩ := h; exact ⟨bm, gk, gt, ct, V, ord, h.keep hk hsz, r⟩
theorem Imp.lt (h : Imp w F g n sz st) : ∀ b, F b → b < w.heap.size := by obtain ⟨bm, gk, gt, ct, V, ord, h, _⟩ := h; exact h.lt
theorem Imp.more (h : Imp w F g n sz st) : Imp w F g (n + 1) sz st := by obtain ⟨bm, gk, gt, ct, V, ord, h, h2, r⟩ := h; exact ⟨bm, gk, gt, ct, V, ord, h, by omega, r⟩
theorem Imp.drewN (h : Imp w F g n sz st) (m : Nat) : Imp (w.drewN m) F g n sz st := h.keep (fun _ _ => rfl) (Nat.le_refl _)
theorem imp_find (h : Imp w F g n sz st) (A : Option Addr) (c : Nat) (l : List Int) (hC : Kd.C (Kd.int .u8) w A l.length l) (hl : l.length ≤ c) (hlb : ∀ x ∈ l, 0 ≤ x ∧ x ≤ 255) (hA : ∀ ad, A = some ad → 0 < l.length → ¬ F ad.block) :
    Calls Try.prog 39 #[.pointer (some ⟨g, 0, none⟩), .slice A l.length c] w fun e w' => e = .returned (.tuple #[.int .i64 (max (fnd kd sz st l).1 0), .bool (decide (0 ≤ (fnd kd sz st l).1))]) ∧ ∃ F', Imp w' F' g (n + 1) sz (fnd kd sz st l).2 ∧ Step w w' F F' := by
  have hh := h
  obtain ⟨bm, gk, gt, ct, V, ord, h, hct, ht⟩ := h
  have hol : ord.length ≤ 64 := Nat.le_trans ht.len h.ok.len.2
  by_cases hz : (l.length : Int) = sz
  · rcases same_slot l st.ks with e | ⟨i, e, hi⟩
    · rw [show fnd kd sz st l = (-1, ⟨st.ks, st.wn, st.ck + 1⟩) by unfold fnd; rw [if_pos hz, e]; rfl]
      exact (Find_miss h A c l hC hlb (by omega)).mono fun e w' ⟨he, m, hm⟩ => ⟨he, F, ⟨bm, gk, gt, ct, V, ord, hm ▸ h.drewN m, by omega, ht.tick⟩, hm ▸ (Step.refl w F).drewN m⟩
    · rw [show fnd kd sz st l = ((i : Int), ⟨st.ks, touched st.wn (i : Int) (st.ck + 1), st.ck + 1⟩) by unfold fnd; rw [if_pos hz, e], show max (i : Int) 0 = i by omega, decide_eq_true (show (0 : Int) ≤ i by omega)]
      exact (Find_hit h A c l hC i e hol).mono fun e' w' ⟨he, F', V', hL, hS⟩ => ⟨he, F', ⟨bm, gk, gt, ct, V', _, hL, by omega, ht.hit (same_some e)⟩, hS⟩
  · rw [show fnd kd sz st l = (-1, st) by unfold fnd; rw [if_neg hz]]
    have := sameAt_len h.ok hz
    exact (Find_miss h A c l hC hlb (by omega)).mono fun e w' ⟨he, m, hm⟩ => ⟨he, F, hm ▸ (hh.drewN m).more, hm ▸ (Step.refl w F).drewN m⟩
theorem imp_put (h : Imp w F g n sz st) (hn : n < 1099511627776) (A : Option Addr) (c : Nat) (l : List Int) (f : Int) (hC : Kd.C (Kd.int .u8) w A l.length l) (hl : l.length ≤ c) (hlb : ∀ x ∈ l, 0 ≤ x ∧ x ≤ 255) (hA : ∀ ad, A = some ad → 0 < l.length → ¬ F ad.block) :
    Calls Try.prog 40 #[.pointer (some ⟨g, 0, none⟩), .slice A l.length c, .int .u64 f] w fun e w' => e = .returned (.tuple #[.int .i64 (put kd sz st l f).1.1, .bool (put kd sz st l f).1.2.1, .int .i64 (put kd sz st l f).1.2.2]) ∧ ∃ F', Imp w' F' g (n + 1) sz (put kd sz st l f).2 ∧ Step w w' F F' := by
  have hh := h
  obtain ⟨bm, gk, gt, ct, V, ord, h, hct, ht⟩ := h
  have hol : ord.length ≤ 64 := Nat.le_trans ht.len h.ok.len.2
  have old : ∀ (a : Int × Bool × Int), putOld kd sz st.ks l f = some a → Calls Try.prog 40 #[.pointer (some ⟨g, 0, none⟩), .slice A l.length c, .int .u64 f] w (fun e w' => e = .returned (.tuple #[.int .i64 a.1, .bool a.2.1, .int .i64 a.2.2]) ∧ ∃ n, w' = w.drewN n) →
      Calls Try.prog 40 #[.pointer (some ⟨g, 0, none⟩), .slice A l.length c, .int .u64 f] w fun e w' => e = .returned (.tuple #[.int .i64 (put kd sz st l f).1.1, .bool (put kd sz st l f).1.2.1, .int .i64 (put kd sz st l f).1.2.2]) ∧ ∃ F', Imp w' F' g (n + 1) sz (put kd sz st l f).2 ∧ Step w w' F F' := by
    intro a ha hc
    rw [show put kd sz st l f = (a, st) by unfold put; rw [ha]]
    exact hc.mono fun e w' ⟨he, m, hm⟩ => ⟨he, F, hm ▸ (hh.drewN m).more, hm ▸ (Step.refl w F).drewN m⟩
  by_cases hz : (l.length : Int) = sz
  · by_cases hf : f > 2
    · exact old (0, false, 72) (by unfold putOld; rw [if_neg (by simpa using hz), if_pos hf]) ((Put_flags h A c l f hC hlb hz hf).mono fun e w' ⟨h1, h2⟩ => ⟨h1, 0, h2 ▸ rfl⟩)
    · rcases same_slot l st.ks with hs | ⟨i, hs, hi⟩
      · by_cases hf2 : f = 2
        · subst hf2
          exact old (0, false, 14) (by unfold putOld; rw [if_neg (by simpa using hz), if_neg hf, if_neg (fun h => absurd h.1 (by decide)), if_neg (by omega), if_pos ⟨by omega, rfl⟩]) (Put_none h A c l hC hlb hz (by omega))
        · have e1 : putOld kd sz st.ks l f = none := by unfold putOld; rw [if_neg (by simpa using hz), if_neg hf, if_neg (fun h => absurd h.1 (by decide)), if_neg (by omega), if_neg (by omega), if_neg (fun h => h.2.2 rfl)]
          rcases free_bound st.ks 0 with hfr | ⟨r, hfr, _, hr⟩
          · obtain ⟨i, r, l', ho, hi, hold⟩ := ht.old h.ok.len.1 hfr
            have hil : i < st.ks.length := (List.getElem?_eq_some_iff.1 hi).1
            have e : put kd sz st l f = (((i : Int), true, 0), ⟨st.ks.set i (some l), touched st.wn (i : Int) (st.ck + 1), st.ck + 1⟩) := by
              have e2 : slotFor st.ks st.wn = (i : Int) := by unfold slotFor; rw [if_pos (by omega), hold]
              unfold put
              rw [e1]
              simp only [e2]
              rw [if_neg (by omega), Int.toNat_natCast]
            rw [e]
            refine (Put_put h A c l f hC hlb hz hf hf2 (by omega) (by omega) hol hA i (st.ks.set i none) (fun w h => room_old h rfl hfr i r ho l' hi) (by rw [List.getElem?_set_self hil]) (miss_set (by omega) i)).mono fun e w' ⟨he, F', V', hL, hS⟩ => ⟨he, F', ⟨bm, gk, gt, ct + 1, V', _, ?_, by omega, ht.set_ hil l⟩, hS⟩
            rw [List.set_set, show (true : Bool) = (some l : Option (List Int)).isSome from rfl, map_set_some] at hL
            exact hL
          · have hrl : r < st.ks.length := by omega
            have e : put kd sz st l f = (((r : Int), true, 0), ⟨st.ks.set r (some l), touched st.wn (r : Int) (st.ck + 1), st.ck + 1⟩) := by
              have e2 : slotFor st.ks st.wn = (r : Int) := by unfold slotFor; rw [if_neg (by omega), hfr]
              unfold put
              rw [e1]
              simp only [e2]
              rw [if_neg (by omega), Int.toNat_natCast]
            rw [e]
            refine (Put_put h A c l f hC hlb hz hf hf2 (by omega) (by omega) hol hA r st.ks (fun w h => (room_free h rfl r hfr).mono fun e w' ⟨he, hw⟩ => ⟨he, hw ▸ h, hw ▸ Step.refl w F⟩) (HashPut.free_at hfr) (by omega)).mono fun e w' ⟨he, F', V', hL, hS⟩ => ⟨he, F', ⟨bm, gk, gt, ct + 1, V', _, ?_, by omega, ht.set_ hrl l⟩, hS⟩
            rw [show (true : Bool) = (some l : Option (List Int)).isSome from rfl, map_set_some] at hL
            exact hL
      · by_cases hf1 : f = 1
        · subst hf1
          exact old (0, false, 70) (by unfold putOld; rw [if_neg (by simpa using hz), if_neg hf, if_neg (fun h => absurd h.1 (by decide)), if_pos ⟨by omega, rfl⟩]) (Put_exist h A c l hC hlb hz i hs)
        · have e : put kd sz st l f = (((i : Int), false, 0), ⟨st.ks, touched st.wn (i : Int) (st.ck + 1), st.ck + 1⟩) := by
            have e1 : putOld kd sz st.ks l f = none := by unfold putOld; rw [if_neg (by simpa using hz), if_neg hf, if_neg (fun h => absurd h.1 (by decide)), if_neg (by omega), if_neg (by omega), if_neg (by omega)]
            unfold put
            rw [e1]
            simp only [hs]
            rw [if_pos (by omega)]
          rw [e]
          exact (Put_again h A c l f hC hlb hz hf hf1 i hs hol).mono fun e' w' ⟨he, F', V', hL, hS⟩ => ⟨he, F', ⟨bm, gk, gt, ct, V', _, hL, by omega, ht.hit (same_some hs)⟩, hS⟩
  · exact old (0, false, 2) (by unfold putOld; rw [if_pos hz]) ((Put_bad h A c l f hC hlb hz).mono fun e w' ⟨h1, h2⟩ => ⟨h1, 0, h2 ▸ rfl⟩)
theorem imp_del (h : Imp w F g n sz st) (A : Option Addr) (c : Nat) (l : List Int) (hC : Kd.C (Kd.int .u8) w A l.length l) (hl : l.length ≤ c) (hlb : ∀ x ∈ l, 0 ≤ x ∧ x ≤ 255) (hA : ∀ ad, A = some ad → 0 < l.length → ¬ F ad.block) :
    Calls Try.prog 45 #[.pointer (some ⟨g, 0, none⟩), .slice A l.length c] w fun e w' => e = .returned (.tuple #[.int .i64 (del kd sz st l).1.1, .int .i64 (del kd sz st l).1.2]) ∧ ∃ F', Imp w' F' g (n + 1) sz (del kd sz st l).2 ∧ Step w w' F F' := by
  have hh := h
  obtain ⟨bm, gk, gt, ct, V, ord, h, hct, ht⟩ := h
  have hol : ord.length ≤ 64 := Nat.le_trans ht.len h.ok.len.2
  by_cases hz : (l.length : Int) = sz
  · rcases same_slot l st.ks with e | ⟨i, e, hi⟩
    · rw [show del kd sz st l = ((0, 14), st) by unfold del; rw [if_neg (fun h => h.elim (by decide) (fun h => h hz)), if_pos (by omega)]]
      exact (Del_none h A c l hC hlb hz (by omega)).mono fun e w' ⟨he, m, hm⟩ => ⟨he, F, hm ▸ (hh.drewN m).more, hm ▸ (Step.refl w F).drewN m⟩
    · rw [show del kd sz st l = (((i : Int), 0), ⟨st.ks.set i none, st.wn, st.ck⟩) by unfold del; rw [if_neg (fun h => h.elim (by decide) (fun h => h hz)), if_neg (by omega), e, Int.toNat_natCast]]
      refine (Del_ h A c l hC hlb hz i e hi hol).mono fun e' w' ⟨he, F', V', hL, hS⟩ => ⟨he, F', ⟨bm, gk, gt, ct, V', _, ?_, by omega, ht.del i⟩, hS⟩
      rw [show (false : Bool) = (none : Option (List Int)).isSome from rfl, map_set_some] at hL
      exact hL
  · rw [show del kd sz st l = ((0, 2), st) by unfold del; rw [if_pos (.inr hz)]]
    exact (Del_bad h A c l hC hlb hz).mono fun e w' ⟨he, hn⟩ => ⟨he, F, hn ▸ hh.more, hn ▸ Step.refl w F⟩
theorem imp_keys (h : Imp w F g n sz st) :
    Calls Try.prog 41 #[.pointer (some ⟨g, 0, none⟩)] w fun e w' => ∃ v, e = .returned v ∧ FreshRows w' w.heap.size v (keys st) ∧ Below w.heap.size w w' := by
  obtain ⟨bm, gk, gt, ct, V, ord, h, hct, ht⟩ := h
  exact Keys_ h rfl
theorem imp_copy (h : Imp w F g n sz st) :
    Calls Try.prog 46 #[.pointer (some ⟨g, 0, none⟩)] w fun e w' => ∃ F' g', e = .returned (.pointer (some ⟨g', 0, none⟩)) ∧ Imp w' F' g' n sz st ∧ (∀ b, F' b → w.heap.size ≤ b) ∧ Below w.heap.size w w' := by
  obtain ⟨bm, gk, gt, ct, V, ord, h, hct, ht⟩ := h
  have hol : ord.length ≤ 64 := Nat.le_trans ht.len h.ok.len.2
  exact (Copy_ h hol).mono fun e w' ⟨F', g', bm', gk', gt', V', he, hL, hF, hB⟩ => ⟨F', g', he, ⟨bm', gk', gt', 64, V', ord, hL, by omega, ht⟩, hF, hB⟩
end
/-- A nil one refuses. -/
theorem nil_find (A : Option Addr) (l c : Nat) (w : World) : Calls Try.prog 39 #[.pointer none, .slice A l c] w fun e w' => e = .returned (.tuple #[.int .i64 0, .bool false]) ∧ w = w' := Lru.Find_nil A l c w
theorem nil_put (A : Option Addr) (l c : Nat) (f : Int) (w : World) : Calls Try.prog 40 #[.pointer none, .slice A l c, .int .u64 f] w fun e w' => e = .returned (.tuple #[.int .i64 0, .bool false, .int .i64 1]) ∧ w = w' := Lru.Put_nil A l c f w
theorem nil_del (A : Option Addr) (l c : Nat) (w : World) : Calls Try.prog 45 #[.pointer none, .slice A l c] w fun e w' => e = .returned (.tuple #[.int .i64 0, .int .i64 1]) ∧ w = w' := Lru.Del_nil A l c w
theorem nil_keys (w : World) : Calls Try.prog 41 #[.pointer none] w fun e w' => e = .returned (.slice none 0 0) ∧ w = w' := Lru.Keys_nil w
theorem nil_copy (w : World) : Calls Try.prog 46 #[.pointer none] w fun e w' => e = .returned (.pointer none) ∧ w = w' := Lru.Copy_nil w
/-- The sizes that may be. -/
def SzOk (s m : Int) : Prop := 1 ≤ s ∧ s ≤ 16 ∧ 1 ≤ m ∧ m ≤ 64
abbrev szOf (s : Int) : Int := s
abbrev st0 (m : Int) : St := ⟨List.replicate m.toNat none, List.replicate m.toNat 0, 0⟩
theorem Times.start (m : Int) : Times (st0 m) [] := by
  refine ⟨fun x h => (List.not_mem_nil h).elim, fun i l h => ?_, List.Pairwise.nil, fun x h => (List.not_mem_nil h).elim, ?_⟩
  · have h : (List.replicate m.toNat none)[i]? = some (some l) := h
    rw [List.getElem?_replicate] at h
    split at h <;> cases h
  · show (List.replicate m.toNat (0 : Int)).length = (List.replicate m.toNat (none : Option (List Int))).length
    rw [List.length_replicate, List.length_replicate]
/-- Both are made. -/
theorem new_both (s m : Int) (h : SzOk s m) :
    (∀ w, Calls Try.prog 38 #[.int .i64 s, .int .i64 m] w fun e w' => ∃ F g, e = .returned (.tuple #[.pointer (some ⟨g, 0, none⟩), .int .i64 0]) ∧ Imp w' F g 0 (szOf s) (st0 m) ∧ (∀ b, F b → w.heap.size ≤ b) ∧ Below w.heap.size w w') ∧
    (∀ w, Calls Try.prog 18 #[.int .i64 2, .int .i64 s, .int .i64 m] w fun e w' => ∃ F g, e = .returned (.tuple #[.pointer (some ⟨g, 0, none⟩), .bool true]) ∧ RI w' F g kd (szOf s) (st0 m) ∧ (∀ b, F b → w.heap.size ≤ b) ∧ Below w.heap.size w w') := by
  obtain ⟨k, rfl⟩ := Int.eq_ofNat_of_zero_le (show 0 ≤ m by have := h.2.2.1; omega)
  obtain ⟨h1, h2, h3, h4⟩ := h
  exact ⟨fun w => (New_ok s k w h1 h2 (by omega) (by omega)).mono fun e w' ⟨F, g, bm, gk, gt, he, hI, hF, hB⟩ => ⟨F, g, he, ⟨bm, gk, gt, 0, _, [], by show LIx w' F g bm gk gt 0 s (List.replicate k none) ((List.replicate k none).map Option.isSome) _ []; rw [List.map_replicate]; exact hI, by omega, Times.start _⟩, hF, hB⟩,
   fun w => (RxNew.New2_ok s k w h1 h2 (by omega) (by omega)).mono fun e w' ⟨F, g, gs, gw, he, hI, hF, hB⟩ => ⟨F, g, he, ⟨gs, gw, _, hI⟩, hF, hB⟩⟩
theorem new_bad (s m : Int) (h : ¬ SzOk s m) :
    (∀ w, Calls Try.prog 38 #[.int .i64 s, .int .i64 m] w fun e w' => e = .returned (.tuple #[.pointer none, .int .i64 2]) ∧ w = w') ∧
    (∀ w, Calls Try.prog 18 #[.int .i64 2, .int .i64 s, .int .i64 m] w fun e w' => e = .returned (.tuple #[.pointer none, .bool false]) ∧ w = w') := by
  unfold SzOk at h
  exact ⟨fun w => Lru.New_bad s m w (by omega), fun w => RxNew.New2_bad s m w (by omega)⟩
end Go.Proofs.Ytfbajampfiodeaa.Imp08
