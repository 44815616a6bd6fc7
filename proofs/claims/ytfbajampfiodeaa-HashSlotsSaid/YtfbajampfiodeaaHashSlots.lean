/- hash: no two held keys share a slot, a key keeps its slot, what was put is found: walked by hand. -/
import Derived.Test.YtfbajampfiodeaaFirst07
import Derived.Test.YtfbajampfiodeaaOp
import Derived.Test.YtfbajampfiodeaaPlays07
namespace Go.Proofs.Ytfbajampfiodeaa.HashSlots
open Go.RowKit Go.Proofs.Ytfbajampfiodeaa.PArrayPlays Go.Proofs.YtfbajampfiodeaaW.PrintWords Go.Proofs.YtfbajampfiodeaaW.PrintLast Go.Proofs.YtfbajampfiodeaaW.PrintMore Go.Proofs.Ytfbajampfiodeaa.Mw Go.Proofs.Ytfbajampfiodeaa.Rx Go.Proofs.Ytfbajampfiodeaa.RxOps Go.Proofs.Ytfbajampfiodeaa.RxPut Go.Proofs.Ytfbajampfiodeaa.RxMore Go.Proofs.Ytfbajampfiodeaa.Fresh Go.Proofs.Ytfbajampfiodeaa.RefAbs Go.Proofs.Ytfbajampfiodeaa.Hm Go.Proofs.Ytfbajampfiodeaa.Hash Go.Proofs.Ytfbajampfiodeaa.HashPut Go.Proofs.Ytfbajampfiodeaa.Imp07 Go.Proofs.Ytfbajampfiodeaa.First07 Go.Proofs.Ytfbajampfiodeaa.Op
open Go.Proofs.Ytfbajampfiodeaa.Plays07 (wb wb_below wb_at)
set_option linter.unusedVariables false
/-! ### The plain part: how many keys are held -/
theorem held_put {ks : List (Option (List Int))} {i : Nat} {l : List Int} (h : ks[i]? = some none) : ((ks.set i (some l)).filterMap id).length = (ks.filterMap id).length + 1 := by
  induction ks generalizing i with
  | nil => simp at h
  | cons k t ih =>
    cases i with
    | zero =>
      have : k = none := by simpa using h
      subst this
      simp
    | succ i =>
      have := ih (i := i) (by simpa using h)
      cases k <;> simp_all
theorem held_del {ks : List (Option (List Int))} {i : Nat} {l : List Int} (h : ks[i]? = some (some l)) : ((ks.set i none).filterMap id).length + 1 = (ks.filterMap id).length := by
  induction ks generalizing i with
  | nil => simp at h
  | cons k t ih =>
    cases i with
    | zero =>
      have : k = some l := by simpa using h
      subst this
      simp
    | succ i =>
      have := ih (i := i) (by simpa using h)
      cases k <;> simp_all
/-- The slot of each listed key. -/
theorem keys_slot {ks : List (Option (List Int))} (hinj : ∀ (i j : Nat) l, ks[i]? = some (some l) → ks[j]? = some (some l) → i = j) {l : List Int} (h : l ∈ ks.filterMap id) : ∃ i : Nat, sameAt l ks 0 = (i : Int) ∧ ks[i]? = some (some l) ∧ i < ks.length := by
  obtain ⟨k, hk, e⟩ := List.mem_filterMap.1 h
  have e : k = some l := e
  subst e
  rcases same_slot l ks with hs | ⟨i, hs, hi⟩
  · obtain ⟨j, hj⟩ := List.mem_iff_getElem?.1 hk
    exact absurd hj (same_none' (by omega) j)
  · exact ⟨i, hs, same_some hs, hi⟩
theorem keys_nodup {ks : List (Option (List Int))} (hinj : ∀ (i j : Nat) l, ks[i]? = some (some l) → ks[j]? = some (some l) → i = j) : (ks.filterMap id).Nodup := by
  rw [List.nodup_iff_pairwise_ne, List.pairwise_filterMap]
  rw [List.pairwise_iff_getElem]
  intro i j hi hj hij a ha b hb hab
  have ha : ks[i] = some a := ha
  have hb : ks[j] = some b := hb
  have := hinj i j a (by rw [List.getElem?_eq_getElem hi, ha]) (by rw [List.getElem?_eq_getElem hj, hb, hab])
  omega
section
variable {w w' : World} {F F' : Nat → Prop} {g bm gt n : Nat} {sz : Int} {st : St}
theorem hash_put (h : HIx w F g bm gt n sz st.ks) (hn : n < 1099511627776) (A : Option Addr) (c : Nat) (l : List Int) (f : Int) (hC : Kd.C (Kd.int .u8) w A l.length l) (hl : l.length ≤ c) (hlb : ∀ x ∈ l, 0 ≤ x ∧ x ≤ 255) :
    Calls Try.prog 35 #[.pointer (some ⟨g, 0, none⟩), .slice A l.length c, .int .u64 f] w fun e w' => e = .returned (.tuple #[.int .i64 (put kd sz st l f).1.1, .bool (put kd sz st l f).1.2.1, .int .i64 (put kd sz st l f).1.2.2]) ∧ HIx w' F g bm gt (n + 1) sz (put kd sz st l f).2.ks ∧ Step w w' F F := by
  have old : ∀ (a : Int × Bool × Int), putOld kd sz st.ks l f = some a → Calls Try.prog 35 #[.pointer (some ⟨g, 0, none⟩), .slice A l.length c, .int .u64 f] w (fun e w' => e = .returned (.tuple #[.int .i64 a.1, .bool a.2.1, .int .i64 a.2.2]) ∧ ∃ n, w' = w.drewN n) →
      Calls Try.prog 35 #[.pointer (some ⟨g, 0, none⟩), .slice A l.length c, .int .u64 f] w fun e w' => e = .returned (.tuple #[.int .i64 (put kd sz st l f).1.1, .bool (put kd sz st l f).1.2.1, .int .i64 (put kd sz st l f).1.2.2]) ∧ HIx w' F g bm gt (n + 1) sz (put kd sz st l f).2.ks ∧ Step w w' F F := by
    intro a ha hc
    rw [show put kd sz st l f = (a, st) by unfold put; rw [ha]]
    exact hc.mono fun e w' ⟨he, n, hn⟩ => ⟨he, hn ▸ (h.drewN n).more (Nat.le_succ _), hn ▸ (Step.refl w F).drewN n⟩
  by_cases hz : (l.length : Int) = sz
  · by_cases hf : f > 2
    · exact old (0, false, 72) (by unfold putOld; rw [if_neg (by simpa using hz), if_pos hf]) ((Put_flags h A c l f hC hlb hz hf).mono fun e w' ⟨h1, h2⟩ => ⟨h1, 0, h2 ▸ rfl⟩)
    · rcases same_slot l st.ks with hs | ⟨i, hs, hi⟩
      · by_cases hf2 : f = 2
        · subst hf2
          exact old (0, false, 14) (by unfold putOld; rw [if_neg (by simpa using hz), if_neg hf, if_neg (fun h => absurd h.1 (by decide)), if_neg (by omega), if_pos ⟨by omega, rfl⟩]) (Put_none h A c l hC hlb hz (by omega))
        · rcases free_bound st.ks 0 with hfr | ⟨r, hfr, _, hr⟩
          · exact old (0, false, 71) (by unfold putOld; rw [if_neg (by simpa using hz), if_neg hf, if_neg (fun h => absurd h.1 (by decide)), if_neg (by omega), if_neg (by omega), if_pos ⟨by omega, by omega, by decide⟩]) (Put_full h A c l f hC hlb hz hf hf2 (by omega) hfr)
          · have e : put kd sz st l f = (((r : Int), true, 0), ⟨st.ks.set r (some l), touched st.wn (r : Int) (st.ck + 1), st.ck + 1⟩) := by
              have e1 : putOld kd sz st.ks l f = none := by unfold putOld; rw [if_neg (by simpa using hz), if_neg hf, if_neg (fun h => absurd h.1 (by decide)), if_neg (by omega), if_neg (by omega), if_neg (by omega)]
              have e2 : slotFor st.ks st.wn = (r : Int) := by unfold slotFor; rw [if_neg (by omega), hfr]
              unfold put
              rw [e1]
              simp only [e2]
              rw [if_neg (by omega), Int.toNat_natCast]
            rw [e]
            exact (Put_new h A c l f hC hlb hz hf hf2 hn (by omega) r hfr (by omega)).mono fun e w' ⟨he, hR, hS⟩ => ⟨he, hR, hS⟩
      · by_cases hf1 : f = 1
        · subst hf1
          exact old (0, false, 70) (by unfold putOld; rw [if_neg (by simpa using hz), if_neg hf, if_neg (fun h => absurd h.1 (by decide)), if_pos ⟨by omega, rfl⟩]) (Put_exist h A c l hC hlb hz i hs)
        · have e : put kd sz st l f = (((i : Int), false, 0), ⟨st.ks, touched st.wn (i : Int) (st.ck + 1), st.ck + 1⟩) := by
            have e1 : putOld kd sz st.ks l f = none := by unfold putOld; rw [if_neg (by simpa using hz), if_neg hf, if_neg (fun h => absurd h.1 (by decide)), if_neg (by omega), if_neg (by omega), if_neg (by omega)]
            unfold put
            rw [e1]
            simp only [hs]
            rw [if_pos (by omega)]
          rw [e]
          exact (Put_again h A c l f hC hlb hz hf hf1 i hs).mono fun e w' ⟨he, n, hn⟩ => ⟨he, hn ▸ (h.drewN n).more (Nat.le_succ _), hn ▸ (Step.refl w F).drewN n⟩
  · exact old (0, false, 2) (by unfold putOld; rw [if_pos hz]) ((Put_bad h A c l f hC hlb hz).mono fun e w' ⟨h1, h2⟩ => ⟨h1, 0, h2 ▸ rfl⟩)
theorem hash_del (h : HIx w F g bm gt n sz st.ks) (A : Option Addr) (c : Nat) (l : List Int) (hC : Kd.C (Kd.int .u8) w A l.length l) (hl : l.length ≤ c) (hlb : ∀ x ∈ l, 0 ≤ x ∧ x ≤ 255) :
    Calls Try.prog 34 #[.pointer (some ⟨g, 0, none⟩), .slice A l.length c] w fun e w' => e = .returned (.tuple #[.int .i64 (del kd sz st l).1.1, .int .i64 (del kd sz st l).1.2]) ∧ HIx w' F g bm gt (n + 1) sz (del kd sz st l).2.ks ∧ Step w w' F F := by
  by_cases hz : (l.length : Int) = sz
  · rcases same_slot l st.ks with e | ⟨i, e, hi⟩
    · rw [show del kd sz st l = ((0, 14), st) by unfold del; rw [if_neg (fun h => h.elim (by decide) (fun h => h hz)), if_pos (by omega)]]
      exact (Del_none h A c l hC hlb hz (by omega)).mono fun e w' ⟨he, n, hn⟩ => ⟨he, hn ▸ (h.drewN n).more (Nat.le_succ _), hn ▸ (Step.refl w F).drewN n⟩
    · rw [show del kd sz st l = (((i : Int), 0), ⟨st.ks.set i none, st.wn, st.ck⟩) by unfold del; rw [if_neg (fun h => h.elim (by decide) (fun h => h hz)), if_neg (by omega), e, Int.toNat_natCast]]
      exact (Del_ h A c l hC hlb hz i e hi).mono fun e w' ⟨he, hR, hS⟩ => ⟨he, hR.more (Nat.le_succ _), hS⟩
  · rw [show del kd sz st l = ((0, 2), st) by unfold del; rw [if_pos (.inr hz)]]
    exact (Del_bad h A c l hC hlb hz).mono fun e w' ⟨he, hn⟩ => ⟨he, hn ▸ h.more (Nat.le_succ _), hn ▸ Step.refl w F⟩
end
/-- One of the listed rows. -/
theorem fresh_at {w : World} {B : Nat} {v : Value} {rows : List (List Int)} (h : FreshRows w B v rows) (k : Nat) (hk : k < rows.length) (hl : rows[k].length ≤ 9223372036854775807) :
    ∃ b c b1 c1, v = .slice (some ⟨b, 0, none⟩) rows.length c ∧ w.cell? ⟨b, k, none⟩ = some (.slice (some ⟨b1, 0, none⟩) rows[k].length c1) ∧ rows[k].length ≤ c1 ∧ Kd.C (Kd.int .u8) w (some ⟨b1, 0, none⟩) rows[k].length rows[k] := by
  rcases h with ⟨_, rfl⟩ | ⟨b, c, hs, e, h1, h2, h3, h4, h5⟩
  · simp at hk
  · have hkh : k < hs.length := by omega
    have hf := h5 k _ _ (List.getElem?_eq_getElem hkh) (List.getElem?_eq_getElem hk)
    obtain ⟨A, c1, e1, k1, k2⟩ := hf.read hl
    obtain ⟨b1, c1', cs, fr, e2, _⟩ := hf
    rw [e1] at e2
    injection e2 with e2 _ e3
    subst e2
    exact ⟨b, c, b1, c1, e, by rw [h3.cell k hkh, e1], k1, k2⟩
/-- What has been seen. -/
def SeenOk (w : World) (gs m : Nat) (rows : List (List Int)) (ks : List (Option (List Int))) (p : Nat) : Prop :=
  ∃ sn : List Bool, Row w gs 4 (sn.map Value.bool) ∧ sn.length = m ∧ ∀ i : Nat, sn[i]? = some true → ∃ j l, j < p ∧ rows[j]? = some l ∧ ks[i]? = some (some l)
/-- The state behind the world w0. -/
def Slots (w0 w : World) (F : Nat → Prop) (g bm gt m n : Nat) (sz : Int) (held : Nat) : Prop := ∃ st : St, HIx w F g bm gt n sz st.ks ∧ st.ks.length = m ∧ (st.ks.filterMap id).length = held ∧ Below w0.heap.size w0 w
theorem putOld_err {sz : Int} {ks : List (Option (List Int))} {l : List Int} {f : Int} {a : Int × Bool × Int} (h : putOld kd sz ks l f = some a) : (a.2.2 == 0) = false := by
  unfold putOld at h
  repeat' split at h
  all_goals first | (cases h; decide) | cases h
theorem putOld_none {sz : Int} {ks : List (Option (List Int))} {l : List Int} {f : Int} (h : putOld kd sz ks l f = none) : (l.length : Int) = sz ∧ (sameAt l ks 0 < 0 → 0 ≤ freeAt ks 0) := by
  unfold putOld at h
  split at h
  · cases h
  · rename_i h1
    split at h
    · cases h
    · split at h
      · cases h
      · split at h
        · cases h
        · split at h
          · cases h
          · split at h
            · cases h
            · rename_i h6
              exact ⟨by omega, fun hs => by
                rcases Int.lt_or_le (freeAt ks 0) 0 with h7 | h7
                · exact absurd ⟨hs, h7, by decide⟩ h6
                · exact h7⟩
theorem seen_start (w : World) (m : Nat) (rows : List (List Int)) (ks : List (Option (List Int))) : SeenOk (w.alloc (.cells (madeCells #[.bool false] m) 4)) w.heap.size m rows ks 0 :=
  ⟨List.replicate m false, Row.of (heap_alloc_new w _) (by rw [made_tk]; simp), by simp, fun i h => by rw [List.getElem?_replicate] at h; split at h <;> cases h⟩
theorem seen_cell {w : World} {gs m p : Nat} {rows : List (List Int)} {ks : List (Option (List Int))} (h : SeenOk w gs m rows ks p) (hn : rows.Nodup) {i : Nat} (hi : i < m) {l : List Int} (hp : rows[p]? = some l) (hk : ks[i]? = some (some l)) : w.cell? ⟨gs, i, none⟩ = some (.bool false) ∧ w.frozen? ⟨gs, i, none⟩ = false := by
  obtain ⟨sn, hr, hl, hs⟩ := h
  refine ⟨?_, hr.frozen i⟩
  rw [hr.cell i (by rw [List.length_map, hl]; exact hi), List.getElem_map]
  cases hb : sn[i]'(by rw [hl]; exact hi) with
  | false => rfl
  | true =>
    obtain ⟨j, l', hj, h1, h2⟩ := hs i (by rw [List.getElem?_eq_getElem (by rw [hl]; exact hi), hb])
    rw [hk] at h2
    cases h2
    obtain ⟨hjl, e1⟩ := List.getElem?_eq_some_iff.1 h1
    obtain ⟨hpl, e2⟩ := List.getElem?_eq_some_iff.1 hp
    exact absurd (e1.trans e2.symm) (List.pairwise_iff_getElem.1 hn j p hjl hpl hj)
theorem seen_set {w : World} {gs m p : Nat} {rows : List (List Int)} {ks : List (Option (List Int))} (h : SeenOk w gs m rows ks p) {i : Nat} (hi : i < m) {l : List Int} (hp : rows[p]? = some l) (hk : ks[i]? = some (some l)) : SeenOk (w.setCell ⟨gs, i, none⟩ (.bool true)) gs m rows ks (p + 1) := by
  obtain ⟨sn, hr, hl, hs⟩ := h
  refine ⟨sn.set i true, by rw [List.map_set]; exact hr.set_ i (by rw [List.length_map, hl]; exact hi) _, by rw [List.length_set]; exact hl, fun j hj => ?_⟩
  by_cases e : i = j
  · subst e
    exact ⟨p, l, Nat.lt_succ_self _, hp, hk⟩
  · rw [List.getElem?_set_ne e] at hj
    obtain ⟨j', l', h1, h2, h3⟩ := hs j hj
    exact ⟨j', l', by omega, h2, h3⟩
theorem fresh_set {w : World} {B gs j : Nat} {v u : Value} {rows : List (List Int)} {vs : List Value} (h : FreshRows w B v rows) (hr : Row w gs 4 vs) : FreshRows (w.setCell ⟨gs, j, none⟩ u) B v rows := by
  obtain ⟨r, hr⟩ := hr
  exact h.keep fun b cs t fr hc ht _ => Below.heap_setCell w _ _ b (blk_ne' hc hr (by rcases ht with rfl | rfl <;> decide))
set_option maxRecDepth 100000 in
theorem law_bad (s m : Int) (v : Value) (w : World) (h : ¬ SzOk s m) :
    Calls Try.prog 6 #[.agg #[.int .i64 s, .int .i64 m], v] w fun e w' => e = .returned (.bool true) ∧ Below w.heap.size w w' := by
  have HH := Lib.hid h
  clear h
  go_enter Try.func6, Try.ntmps6
  go_wp2_with fail
  refine (first_calls (wb w s m)).mono ?_
  rintro e w1 ⟨rfl, hB⟩
  have HB := Lib.hid hB
  obtain ⟨k0, k1⟩ := wb_at hB
  clear hB
  go_wp2_with fail
  refine ((new_bad s m HH.out).1 _).mono ?_
  rintro e w2 ⟨rfl, rfl⟩
  go_wp2
  go_ret
  exact ⟨rfl, (wb_below w s m).trans (HB.out.mono (by simp))⟩
set_option maxRecDepth 100000 in
set_option maxHeartbeats 16000000 in
theorem law_ok (s : Int) (m : Nat) (A : Option Addr) (xs : List (Int × List Int × Int)) (c : Nat) (w : World) (h1 : 1 ≤ s) (h2 : s ≤ 16) (h3 : 1 ≤ m) (h4 : m ≤ 64) (hx : Kd.C kOp w A xs.length xs) (hc : xs.length ≤ c) (hcm : c ≤ 9223372036854775807) (hxb : ∀ p ∈ xs, ∀ b ∈ p.2.1, 0 ≤ b ∧ b ≤ 255) :
    Calls Try.prog 6 #[.agg #[.int .i64 s, .int .i64 (m : Int)], .slice A xs.length c] w fun e w' => e = .returned (.bool true) ∧ Below w.heap.size w w' := by
  obtain ⟨i1, hi1, hz1, hs1', hb1⟩ := info_parts (P := Try.prog) (e := 4) (z := .bool false) (size := 1) (bytes := 1) (by kernel_rfl)
  have hm1 : ∀ W, (Instr.makeSlice 58 (.int .i64 m) (.int .i64 m)).run Try.prog W = .ok (.slice (some ⟨W.heap.size, 0, none⟩) m m) (W.alloc (.cells (madeCells #[.bool false] m) 4)) := by
    intro W
    have := run_makeSlice (P := Try.prog) W 58 4 i1 (.bool false) Try.underlying58 hi1 hz1 .i64 .i64 m m (by omega) (by omega) (by rw [hs1']; omega) (by rw [hb1]; omega) (by omega)
    rw [hs1', Int.toNat_natCast, Nat.mul_one] at this
    exact this
  have HX := Lib.hid (Kd.C_below hx (wb_below w s m))
  have HXB := Lib.hid hxb
  have HW := Lib.hid (wb_below w s m)
  have HS12 := Lib.hid (And.intro h1 h2)
  clear hx hxb hi1 hz1 hs1' hb1 h1 h2
  obtain ⟨nn, hnn⟩ : ∃ nn : Nat, nn = xs.length := ⟨_, rfl⟩
  have HN := Lib.hid hnn
  rw [← hnn] at hc HX ⊢
  clear hnn
  go_enter Try.func6, Try.ntmps6
  go_wp2_with fail
  refine (first_calls (wb w s m)).mono ?_
  rintro e w1 ⟨rfl, hB⟩
  have HB := Lib.hid hB
  obtain ⟨k0, k1⟩ := wb_at hB
  clear hB
  go_wp2_with fail
  refine (New_ok s m w1 HS12.out.1 HS12.out.2 h3 h4).mono ?_
  rintro e w2 ⟨F, g, bm, gt, rfl, hI, hF, hB2⟩
  have HF := Lib.hid (show ∀ b, F b → (wb w s m).heap.size ≤ b from fun b hb => Nat.le_trans HB.out.size (hF b hb))
  have HS : Hid (Slots (wb w s m) w2 F g bm gt m 0 s 0) := Lib.hid ⟨⟨List.replicate m none, [], 0⟩, hI, by simp, by show ((List.replicate m (none : Option (List Int))).filterMap id).length = 0; simp, HB.out.trans (hB2.mono HB.out.size)⟩
  clear hI hF hB2 k0 k1 HB
  go_wp2
  go_loopw [7, 43] (fun h i wr => ∃ k held : Nat, k ≤ nn ∧ k ≤ 60 ∧ i = .int .i64 (k : Int) ∧ h = .int .i64 (held : Int) ∧ Hid (Slots (wb w s m) wr F g bm gt m k s held)) (fun _ i _ => nn - (intOf i).toNat)
  case atStart => exact ⟨0, 0, Nat.zero_le _, by omega, rfl, rfl, HS⟩
  case round =>
    clear HS
    obtain ⟨k, held, hk, hk60, rfl, rfl, HS⟩ := hrel
    by_cases hlt : k < nn ∧ k < 60
    · obtain ⟨hlt, hlt8⟩ := hlt
      obtain ⟨st, hI, hln, hhd, hBel⟩ := HS.out
      have HI := Lib.hid hI; have HLN := Lib.hid hln; have HHELD := Lib.hid hhd; have HBEL := Lib.hid hBel
      have hheld : held ≤ 64 := by rw [← hhd]; have := List.length_filterMap_le (id : Option (List Int) → _) st.ks; omega
      obtain ⟨ad, a, l, f, A1, c1, rfl, g0, g1, g2, hl, hC, hm⟩ := op_at HX.out k (by omega)
      have HC := Lib.hid (Kd.C_below hC hBel)
      have g0' := old hBel g0
      have g1' := old hBel g1
      have g2' := old hBel g2
      have HM := Lib.hid (HXB.out _ hm)
      have n60 : ¬ ((k : Int) ≥ 60) := by omega
      have HIa : Hid (HIx (wr.alloc (.cells #[.int .i64 a, .slice A1 l.length c1, .int .u64 f] 54)) F g bm gt k s st.ks) := Lib.hid (hI.alloc _)
      have HBa : Hid (Below (wb w s m).heap.size (wb w s m) (wr.alloc (.cells #[.int .i64 a, .slice A1 l.length c1, .int .u64 f] 54))) := Lib.hid (below_alloc hBel _)
      have HCa : Hid (Kd.C (Kd.int .u8) (wr.alloc (.cells #[.int .i64 a, .slice A1 l.length c1, .int .u64 f] 54)) A1 l.length l) := Lib.hid (Kd.C_alloc HC.out _)
      have hfc := Find_ HIa.out A1 c1 l HCa.out HM.out
      clear hC hm g0 g1 g2 hI hln hhd hBel HS
      rcases same_slot l st.ks with hsa | ⟨ri, hsa, hri⟩
      · rw [hsa, show max (-1 : Int) 0 = 0 by omega, decide_eq_false (show ¬ (0 : Int) ≤ -1 by omega)] at hfc
        have HFC := Lib.hid hfc; have HSA := Lib.hid hsa
        clear hfc hsa
        go_wp2_with fail
        refine HFC.out.mono ?_
        rintro e w4 ⟨rfl, qf, rfl⟩
        by_cases hkd : (IntKind.u64.wrap a).tmod 3 = 2
        · have t0 : ((IntKind.u64.wrap a).tmod 3 == 2) = true := by rw [hkd]; rfl
          clear hkd
          obtain ⟨e1, he1, hdel⟩ : ∃ e1, (e1 == 0) = false ∧ del kd s st l = ((0, e1), st) := by
            have := HSA.out
            by_cases hz : (l.length : Int) = s
            · exact ⟨14, by decide, by unfold del; rw [if_neg (fun h => h.elim (by decide) (fun h => h hz)), if_pos (by omega)]⟩
            · exact ⟨2, by decide, by unfold del; rw [if_pos (.inr hz)]⟩
          have hdc := hash_del (HIa.out.drewN qf) A1 c1 l (Kd.C_drewN HCa.out qf) hl HM.out
          rw [hdel] at hdc
          have HDC := Lib.hid hdc
          clear hdc hdel
          go_wp2_with fail
          refine HDC.out.mono ?_
          rintro e w5 ⟨rfl, hI5, hS5⟩
          obtain ⟨hd, hhd⟩ : ∃ hd, hd = held := ⟨_, rfl⟩
          have HS5 : Hid (Slots (wb w s m) w5 F g bm gt m (k + 1) s hd) := Lib.hid ⟨st, hI5, HLN.out, hhd ▸ HHELD.out, hS5.below (pw_below_drewN HBa.out qf) HF.out⟩
          rw [← hhd]
          clear hI5 hS5 hhd HIa HBa HCa HFC HDC HI HBEL g0' g1' g2'
          go_wp2_with fail
          obtain ⟨st5, hI5, hl5, hh5, hB5⟩ := HS5.out
          have HI5 := Lib.hid hI5; have HL5 := Lib.hid hl5
          refine (HashKeys.Keys_ hI5).mono ?_
          rintro e w6 ⟨v, rfl, hF6, hB6⟩
          obtain ⟨rows, hrows⟩ : ∃ rows, rows = st5.ks.filterMap id := ⟨_, rfl⟩
          rw [← hrows] at hF6 hh5
          have HRE := Lib.hid hrows
          have HINJ : Hid (∀ (i j : Nat) (l : List Int), st5.ks[i]? = some (some l) → st5.ks[j]? = some (some l) → i = j) := Lib.hid (by obtain ⟨D, _, hm⟩ := hI5.map; exact fun i j l h1 h2 => hm.inj h1 h2)
          have HRL : Hid (∀ l ∈ rows, l.length ≤ 16 ∧ Bs l) := Lib.hid (fun l hl => by
            rw [hrows] at hl
            obtain ⟨k, hk, e⟩ := List.mem_filterMap.1 hl
            have e : k = some l := e
            subst e
            have h1 := hI5.ok.kb l hk
            have h2 := hI5.ok.szs
            exact ⟨by omega, h1.2⟩)
          have HHM : Hid (hd ≤ m) := Lib.hid (by rw [← hh5, hrows, ← hl5]; exact List.length_filterMap_le _ _)
          obtain ⟨vA, vc, hv⟩ : ∃ A c, v = .slice A hd c := by
            rcases hF6 with ⟨h, h2⟩ | ⟨b, c, hs, h, _⟩
            · exact ⟨_, _, by rw [h, ← hh5, h2]; rfl⟩
            · exact ⟨_, _, by rw [← hh5]; exact h⟩
          subst hv
          have HF6 := Lib.hid hF6; have HB6 := Lib.hid hB6; have HB5 := Lib.hid hB5; have HHD := Lib.hid hh5
          clear hI5 hl5 hh5 hB5 hF6 hB6 hrows HS5
          obtain ⟨_, k1⟩ := wb_at (HB5.out.trans (HB6.out.mono HB5.out.size))
          go_wp2
          clear k1
          have HI6 := Lib.hid ((HI5.out.below HB6.out).alloc (.cells (madeCells #[.bool false] m) 4))
          have HFR := Lib.hid (HF6.out.below (below_alloc (Below.refl _ _) (.cells (madeCells #[.bool false] m) 4)))
          have HSN := Lib.hid (seen_start w6 m rows st5.ks)
          have HB7 := Lib.hid (below_alloc (HB5.out.trans (HB6.out.mono HB5.out.size)) (.cells (madeCells #[.bool false] m) 4))
          have hd64 : hd ≤ 64 := by have := HHM.out; omega
          go_loopw [127] (fun i wx => ∃ p : Nat, p ≤ hd ∧ i = .int .i64 (p : Int) ∧ Hid (HIx wx F g bm gt (k + 1) s st5.ks) ∧ Hid (FreshRows wx w5.heap.size (.slice vA hd vc) rows) ∧ Hid (SeenOk wx w6.heap.size m rows st5.ks p) ∧ Hid (Below (wb w s m).heap.size (wb w s m) wx)) (fun i _ => hd - (intOf i).toNat)
          case atStart => exact ⟨0, Nat.zero_le _, rfl, HI6, HFR, HSN, HB7⟩
          case round =>
            clear HI6 HFR HSN HB7
            obtain ⟨p, hp, rfl, HI6, HFR, HSN, HB7⟩ := hrel
            by_cases hlp : p < hd
            · have hpl : p < rows.length := by rw [HHD.out]; exact hlp
              obtain ⟨vb, vc', b1, c1', hv, x0, x1, x2⟩ := fresh_at HFR.out p hpl (by have := (HRL.out rows[p] (List.getElem_mem hpl)).1; omega)
              have hv2 : vA = some ⟨vb, 0, none⟩ := by injection hv
              subst hv2
              have hrp : rows[p]? = some (rows[p]'hpl) := List.getElem?_eq_getElem hpl
              obtain ⟨i, hsa, hki, him⟩ := keys_slot HINJ.out (l := rows[p]'hpl) (by rw [← HRE.out]; exact List.getElem_mem hpl)
              have hlb := (HRL.out rows[p] (List.getElem_mem hpl)).2
              generalize rows[p]'hpl = l2 at *
              rw [HL5.out] at him
              have hc := Find_ HI6.out (some ⟨b1, 0, none⟩) c1' l2 x2 hlb
              rw [hsa, show max (i : Int) 0 = i by omega, decide_eq_true (show (0 : Int) ≤ i by omega)] at hc
              have HC := Lib.hid hc
              obtain ⟨y0, y1⟩ := seen_cell HSN.out (by rw [HRE.out]; exact keys_nodup HINJ.out) him hrp hki
              obtain ⟨_, k1⟩ := wb_at HB7.out
              have HX := Lib.hid (And.intro hrp (And.intro hki him))
              have him2 : (i : Int) < (m : Int) := by omega
              clear hv x1 x2 hc hlb hsa hki hrp
              go_wp2_with fail
              refine HC.out.mono ?_
              rintro e w8 ⟨rfl, qn, rfl⟩
              go_wp2
              have HI9 : Hid (HIx ((wr.setCell ⟨w6.heap.size, i, none⟩ (.bool true)).drewN qn) F g bm gt (k + 1) s st5.ks) := Lib.hid ((HI6.out.keep (w' := wr.setCell ⟨w6.heap.size, i, none⟩ (.bool true)) (fun b hb => Below.heap_setCell _ _ _ b (by have := HI5.out.lt b hb; have := HB6.out.size; show b ≠ w6.heap.size; omega)) (by simp [World.setCell])).drewN qn)
              have HFR9 : Hid (FreshRows ((wr.setCell ⟨w6.heap.size, i, none⟩ (.bool true)).drewN qn) w5.heap.size (.slice (some ⟨vb, 0, none⟩) hd vc) rows) := Lib.hid ((by obtain ⟨sn, hr, _⟩ := HSN.out; exact fresh_set HFR.out hr : FreshRows (wr.setCell ⟨w6.heap.size, i, none⟩ (.bool true)) w5.heap.size (.slice (some ⟨vb, 0, none⟩) hd vc) rows).below (pw_below_drewN (Below.refl _ _) qn))
              have HSN9 : Hid (SeenOk ((wr.setCell ⟨w6.heap.size, i, none⟩ (.bool true)).drewN qn) w6.heap.size m rows st5.ks (p + 1)) := Lib.hid (seen_set HSN.out HX.out.2.2 HX.out.1 HX.out.2.1)
              have HB9 : Hid (Below (wb w s m).heap.size (wb w s m) ((wr.setCell ⟨w6.heap.size, i, none⟩ (.bool true)).drewN qn)) := Lib.hid (pw_below_drewN (HB7.out.setCell (p := ⟨w6.heap.size, i, none⟩) (Nat.le_trans HB5.out.size HB6.out.size) _) qn)
              clear x0 y0 y1 k1 HI6 HFR HSN HB7 HX HC
              go_roundw
              case rel => exact ⟨p + 1, by omega, by go_num, HI9, HFR9, HSN9, HB9⟩
              case measure => simp [intOf]; omega
            · have HEND : Hid (Slots (wb w s m) wr F g bm gt m (k + 1) s hd) := Lib.hid ⟨st5, HI6.out, HL5.out, by rw [← HRE.out]; exact HHD.out, HB7.out⟩
              obtain ⟨_, k1⟩ := wb_at HB7.out
              have hhm : (hd : Int) ≤ (m : Int) := by have := HHM.out; omega
              obtain rfl : p = hd := by omega
              clear HI6 HFR HSN HB7
              go_wp2
              go_roundw
              case rel => exact ⟨k + 1, p, by omega, by omega, by go_num, rfl, HEND⟩
              case measure => simp [intOf]; omega
        · have t0 : ((IntKind.u64.wrap a).tmod 3 == 2) = false := by simpa using hkd
          clear hkd
          have hpc := hash_put (HIa.out.drewN qf) (show k < 1099511627776 by omega) A1 c1 l f (Kd.C_drewN HCa.out qf) hl HM.out
          cases hp : putOld kd s st.ks l f with
          | some a' =>
            obtain ⟨p1, p2, p3⟩ := a'
            rw [show put kd s st l f = ((p1, p2, p3), st) by unfold put; rw [hp]] at hpc
            have t1 : (p3 == 0) = false := putOld_err hp
            have HPC := Lib.hid hpc
            clear hpc hp
            go_wp2_with fail
            refine HPC.out.mono ?_
            rintro e w5 ⟨rfl, hI5, hS5⟩
            obtain ⟨hd, hhd⟩ : ∃ hd, hd = held := ⟨_, rfl⟩
            have HS5 : Hid (Slots (wb w s m) w5 F g bm gt m (k + 1) s hd) := Lib.hid ⟨st, hI5, HLN.out, hhd ▸ HHELD.out, hS5.below (pw_below_drewN HBa.out qf) HF.out⟩
            rw [← hhd]
            clear hI5 hS5 hhd HIa HBa HCa HFC HPC HI HBEL g0' g1' g2'
            go_wp2_with fail
            obtain ⟨st5, hI5, hl5, hh5, hB5⟩ := HS5.out
            have HI5 := Lib.hid hI5; have HL5 := Lib.hid hl5
            refine (HashKeys.Keys_ hI5).mono ?_
            rintro e w6 ⟨v, rfl, hF6, hB6⟩
            obtain ⟨rows, hrows⟩ : ∃ rows, rows = st5.ks.filterMap id := ⟨_, rfl⟩
            rw [← hrows] at hF6 hh5
            have HRE := Lib.hid hrows
            have HINJ : Hid (∀ (i j : Nat) (l : List Int), st5.ks[i]? = some (some l) → st5.ks[j]? = some (some l) → i = j) := Lib.hid (by obtain ⟨D, _, hm⟩ := hI5.map; exact fun i j l h1 h2 => hm.inj h1 h2)
            have HRL : Hid (∀ l ∈ rows, l.length ≤ 16 ∧ Bs l) := Lib.hid (fun l hl => by
              rw [hrows] at hl
              obtain ⟨k, hk, e⟩ := List.mem_filterMap.1 hl
              have e : k = some l := e
              subst e
              have h1 := hI5.ok.kb l hk
              have h2 := hI5.ok.szs
              exact ⟨by omega, h1.2⟩)
            have HHM : Hid (hd ≤ m) := Lib.hid (by rw [← hh5, hrows, ← hl5]; exact List.length_filterMap_le _ _)
            obtain ⟨vA, vc, hv⟩ : ∃ A c, v = .slice A hd c := by
              rcases hF6 with ⟨h, h2⟩ | ⟨b, c, hs, h, _⟩
              · exact ⟨_, _, by rw [h, ← hh5, h2]; rfl⟩
              · exact ⟨_, _, by rw [← hh5]; exact h⟩
            subst hv
            have HF6 := Lib.hid hF6; have HB6 := Lib.hid hB6; have HB5 := Lib.hid hB5; have HHD := Lib.hid hh5
            clear hI5 hl5 hh5 hB5 hF6 hB6 hrows HS5
            obtain ⟨_, k1⟩ := wb_at (HB5.out.trans (HB6.out.mono HB5.out.size))
            go_wp2
            clear k1
            have HI6 := Lib.hid ((HI5.out.below HB6.out).alloc (.cells (madeCells #[.bool false] m) 4))
            have HFR := Lib.hid (HF6.out.below (below_alloc (Below.refl _ _) (.cells (madeCells #[.bool false] m) 4)))
            have HSN := Lib.hid (seen_start w6 m rows st5.ks)
            have HB7 := Lib.hid (below_alloc (HB5.out.trans (HB6.out.mono HB5.out.size)) (.cells (madeCells #[.bool false] m) 4))
            have hd64 : hd ≤ 64 := by have := HHM.out; omega
            go_loopw [127] (fun i wx => ∃ p : Nat, p ≤ hd ∧ i = .int .i64 (p : Int) ∧ Hid (HIx wx F g bm gt (k + 1) s st5.ks) ∧ Hid (FreshRows wx w5.heap.size (.slice vA hd vc) rows) ∧ Hid (SeenOk wx w6.heap.size m rows st5.ks p) ∧ Hid (Below (wb w s m).heap.size (wb w s m) wx)) (fun i _ => hd - (intOf i).toNat)
            case atStart => exact ⟨0, Nat.zero_le _, rfl, HI6, HFR, HSN, HB7⟩
            case round =>
              clear HI6 HFR HSN HB7
              obtain ⟨p, hp, rfl, HI6, HFR, HSN, HB7⟩ := hrel
              by_cases hlp : p < hd
              · have hpl : p < rows.length := by rw [HHD.out]; exact hlp
                obtain ⟨vb, vc', b1, c1', hv, x0, x1, x2⟩ := fresh_at HFR.out p hpl (by have := (HRL.out rows[p] (List.getElem_mem hpl)).1; omega)
                have hv2 : vA = some ⟨vb, 0, none⟩ := by injection hv
                subst hv2
                have hrp : rows[p]? = some (rows[p]'hpl) := List.getElem?_eq_getElem hpl
                obtain ⟨i, hsa, hki, him⟩ := keys_slot HINJ.out (l := rows[p]'hpl) (by rw [← HRE.out]; exact List.getElem_mem hpl)
                have hlb := (HRL.out rows[p] (List.getElem_mem hpl)).2
                generalize rows[p]'hpl = l2 at *
                rw [HL5.out] at him
                have hc := Find_ HI6.out (some ⟨b1, 0, none⟩) c1' l2 x2 hlb
                rw [hsa, show max (i : Int) 0 = i by omega, decide_eq_true (show (0 : Int) ≤ i by omega)] at hc
                have HC := Lib.hid hc
                obtain ⟨y0, y1⟩ := seen_cell HSN.out (by rw [HRE.out]; exact keys_nodup HINJ.out) him hrp hki
                obtain ⟨_, k1⟩ := wb_at HB7.out
                have HX := Lib.hid (And.intro hrp (And.intro hki him))
                have him2 : (i : Int) < (m : Int) := by omega
                clear hv x1 x2 hc hlb hsa hki hrp
                go_wp2_with fail
                refine HC.out.mono ?_
                rintro e w8 ⟨rfl, qn, rfl⟩
                go_wp2
                have HI9 : Hid (HIx ((wr.setCell ⟨w6.heap.size, i, none⟩ (.bool true)).drewN qn) F g bm gt (k + 1) s st5.ks) := Lib.hid ((HI6.out.keep (w' := wr.setCell ⟨w6.heap.size, i, none⟩ (.bool true)) (fun b hb => Below.heap_setCell _ _ _ b (by have := HI5.out.lt b hb; have := HB6.out.size; show b ≠ w6.heap.size; omega)) (by simp [World.setCell])).drewN qn)
                have HFR9 : Hid (FreshRows ((wr.setCell ⟨w6.heap.size, i, none⟩ (.bool true)).drewN qn) w5.heap.size (.slice (some ⟨vb, 0, none⟩) hd vc) rows) := Lib.hid ((by obtain ⟨sn, hr, _⟩ := HSN.out; exact fresh_set HFR.out hr : FreshRows (wr.setCell ⟨w6.heap.size, i, none⟩ (.bool true)) w5.heap.size (.slice (some ⟨vb, 0, none⟩) hd vc) rows).below (pw_below_drewN (Below.refl _ _) qn))
                have HSN9 : Hid (SeenOk ((wr.setCell ⟨w6.heap.size, i, none⟩ (.bool true)).drewN qn) w6.heap.size m rows st5.ks (p + 1)) := Lib.hid (seen_set HSN.out HX.out.2.2 HX.out.1 HX.out.2.1)
                have HB9 : Hid (Below (wb w s m).heap.size (wb w s m) ((wr.setCell ⟨w6.heap.size, i, none⟩ (.bool true)).drewN qn)) := Lib.hid (pw_below_drewN (HB7.out.setCell (p := ⟨w6.heap.size, i, none⟩) (Nat.le_trans HB5.out.size HB6.out.size) _) qn)
                clear x0 y0 y1 k1 HI6 HFR HSN HB7 HX HC
                go_roundw
                case rel => exact ⟨p + 1, by omega, by go_num, HI9, HFR9, HSN9, HB9⟩
                case measure => simp [intOf]; omega
              · have HEND : Hid (Slots (wb w s m) wr F g bm gt m (k + 1) s hd) := Lib.hid ⟨st5, HI6.out, HL5.out, by rw [← HRE.out]; exact HHD.out, HB7.out⟩
                obtain ⟨_, k1⟩ := wb_at HB7.out
                have hhm : (hd : Int) ≤ (m : Int) := by have := HHM.out; omega
                obtain rfl : p = hd := by omega
                clear HI6 HFR HSN HB7
                go_wp2
                go_roundw
                case rel => exact ⟨k + 1, p, by omega, by omega, by go_num, rfl, HEND⟩
                case measure => simp [intOf]; omega
          | none =>
            obtain ⟨i, hfr, _, him⟩ : ∃ r : Nat, freeAt st.ks 0 = (r : Int) ∧ 0 ≤ r ∧ r < 0 + st.ks.length := (free_bound st.ks 0).resolve_left (by have := (putOld_none hp).2 (by have := HSA.out; omega); omega)
            have hput : put kd s st l f = (((i : Int), true, 0), ⟨st.ks.set i (some l), touched st.wn (i : Int) (st.ck + 1), st.ck + 1⟩) := by
              have e2 : slotFor st.ks st.wn = (i : Int) := by unfold slotFor; rw [if_neg (by omega), hfr]
              unfold put
              rw [hp]
              simp only [e2]
              rw [if_neg (by have := HSA.out; omega), Int.toNat_natCast]
            rw [hput] at hpc
            have HPC := Lib.hid hpc
            have him2 : (i : Int) < (m : Int) := by have := HLN.out; omega
            have HFREE := Lib.hid (free_at hfr)
            clear hpc hput hp hfr
            go_wp2_with fail
            refine HPC.out.mono ?_
            rintro e w5 ⟨rfl, hI5, hS5⟩
            obtain ⟨hd, hhd⟩ : ∃ hd : Nat, hd = held + 1 := ⟨_, rfl⟩
            have HS5 : Hid (Slots (wb w s m) w5 F g bm gt m (k + 1) s hd) := Lib.hid ⟨⟨st.ks.set i (some l), [], 0⟩, hI5, by show (st.ks.set i (some l)).length = m; rw [List.length_set]; exact HLN.out, by show ((st.ks.set i (some l)).filterMap id).length = hd; rw [held_put HFREE.out, HHELD.out, hhd], hS5.below (pw_below_drewN HBa.out qf) HF.out⟩
            have HHD2 := Lib.hid hhd
            obtain ⟨_, k1⟩ := wb_at (hS5.below (pw_below_drewN HBa.out qf) HF.out)
            have heq : (held : Int) + 1 = (hd : Int) := by omega
            clear hI5 hS5 hhd HIa HBa HCa HFC HPC HI HBEL g0' g1' g2'
            go_wp2_with fail
            clear heq k1
            go_wp2_with fail
            obtain ⟨st5, hI5, hl5, hh5, hB5⟩ := HS5.out
            have HI5 := Lib.hid hI5; have HL5 := Lib.hid hl5
            refine (HashKeys.Keys_ hI5).mono ?_
            rintro e w6 ⟨v, rfl, hF6, hB6⟩
            obtain ⟨rows, hrows⟩ : ∃ rows, rows = st5.ks.filterMap id := ⟨_, rfl⟩
            rw [← hrows] at hF6 hh5
            have HRE := Lib.hid hrows
            have HINJ : Hid (∀ (i j : Nat) (l : List Int), st5.ks[i]? = some (some l) → st5.ks[j]? = some (some l) → i = j) := Lib.hid (by obtain ⟨D, _, hm⟩ := hI5.map; exact fun i j l h1 h2 => hm.inj h1 h2)
            have HRL : Hid (∀ l ∈ rows, l.length ≤ 16 ∧ Bs l) := Lib.hid (fun l hl => by
              rw [hrows] at hl
              obtain ⟨k, hk, e⟩ := List.mem_filterMap.1 hl
              have e : k = some l := e
              subst e
              have h1 := hI5.ok.kb l hk
              have h2 := hI5.ok.szs
              exact ⟨by omega, h1.2⟩)
            have HHM : Hid (hd ≤ m) := Lib.hid (by rw [← hh5, hrows, ← hl5]; exact List.length_filterMap_le _ _)
            obtain ⟨vA, vc, hv⟩ : ∃ A c, v = .slice A hd c := by
              rcases hF6 with ⟨h, h2⟩ | ⟨b, c, hs, h, _⟩
              · exact ⟨_, _, by rw [h, ← hh5, h2]; rfl⟩
              · exact ⟨_, _, by rw [← hh5]; exact h⟩
            subst hv
            have HF6 := Lib.hid hF6; have HB6 := Lib.hid hB6; have HB5 := Lib.hid hB5; have HHD := Lib.hid hh5
            clear hI5 hl5 hh5 hB5 hF6 hB6 hrows HS5
            obtain ⟨_, k1⟩ := wb_at (HB5.out.trans (HB6.out.mono HB5.out.size))
            go_wp2
            clear k1
            have HI6 := Lib.hid ((HI5.out.below HB6.out).alloc (.cells (madeCells #[.bool false] m) 4))
            have HFR := Lib.hid (HF6.out.below (below_alloc (Below.refl _ _) (.cells (madeCells #[.bool false] m) 4)))
            have HSN := Lib.hid (seen_start w6 m rows st5.ks)
            have HB7 := Lib.hid (below_alloc (HB5.out.trans (HB6.out.mono HB5.out.size)) (.cells (madeCells #[.bool false] m) 4))
            have hd64 : hd ≤ 64 := by have := HHM.out; omega
            go_loopw [127] (fun i wx => ∃ p : Nat, p ≤ hd ∧ i = .int .i64 (p : Int) ∧ Hid (HIx wx F g bm gt (k + 1) s st5.ks) ∧ Hid (FreshRows wx w5.heap.size (.slice vA hd vc) rows) ∧ Hid (SeenOk wx w6.heap.size m rows st5.ks p) ∧ Hid (Below (wb w s m).heap.size (wb w s m) wx)) (fun i _ => hd - (intOf i).toNat)
            case atStart => exact ⟨0, Nat.zero_le _, rfl, HI6, HFR, HSN, HB7⟩
            case round =>
              clear HI6 HFR HSN HB7
              obtain ⟨p, hp, rfl, HI6, HFR, HSN, HB7⟩ := hrel
              by_cases hlp : p < hd
              · have hpl : p < rows.length := by rw [HHD.out]; exact hlp
                obtain ⟨vb, vc', b1, c1', hv, x0, x1, x2⟩ := fresh_at HFR.out p hpl (by have := (HRL.out rows[p] (List.getElem_mem hpl)).1; omega)
                have hv2 : vA = some ⟨vb, 0, none⟩ := by injection hv
                subst hv2
                have hrp : rows[p]? = some (rows[p]'hpl) := List.getElem?_eq_getElem hpl
                obtain ⟨i, hsa, hki, him⟩ := keys_slot HINJ.out (l := rows[p]'hpl) (by rw [← HRE.out]; exact List.getElem_mem hpl)
                have hlb := (HRL.out rows[p] (List.getElem_mem hpl)).2
                generalize rows[p]'hpl = l2 at *
                rw [HL5.out] at him
                have hc := Find_ HI6.out (some ⟨b1, 0, none⟩) c1' l2 x2 hlb
                rw [hsa, show max (i : Int) 0 = i by omega, decide_eq_true (show (0 : Int) ≤ i by omega)] at hc
                have HC := Lib.hid hc
                obtain ⟨y0, y1⟩ := seen_cell HSN.out (by rw [HRE.out]; exact keys_nodup HINJ.out) him hrp hki
                obtain ⟨_, k1⟩ := wb_at HB7.out
                have HX := Lib.hid (And.intro hrp (And.intro hki him))
                have him2 : (i : Int) < (m : Int) := by omega
                clear hv x1 x2 hc hlb hsa hki hrp
                go_wp2_with fail
                refine HC.out.mono ?_
                rintro e w8 ⟨rfl, qn, rfl⟩
                go_wp2
                have HI9 : Hid (HIx ((wr.setCell ⟨w6.heap.size, i, none⟩ (.bool true)).drewN qn) F g bm gt (k + 1) s st5.ks) := Lib.hid ((HI6.out.keep (w' := wr.setCell ⟨w6.heap.size, i, none⟩ (.bool true)) (fun b hb => Below.heap_setCell _ _ _ b (by have := HI5.out.lt b hb; have := HB6.out.size; show b ≠ w6.heap.size; omega)) (by simp [World.setCell])).drewN qn)
                have HFR9 : Hid (FreshRows ((wr.setCell ⟨w6.heap.size, i, none⟩ (.bool true)).drewN qn) w5.heap.size (.slice (some ⟨vb, 0, none⟩) hd vc) rows) := Lib.hid ((by obtain ⟨sn, hr, _⟩ := HSN.out; exact fresh_set HFR.out hr : FreshRows (wr.setCell ⟨w6.heap.size, i, none⟩ (.bool true)) w5.heap.size (.slice (some ⟨vb, 0, none⟩) hd vc) rows).below (pw_below_drewN (Below.refl _ _) qn))
                have HSN9 : Hid (SeenOk ((wr.setCell ⟨w6.heap.size, i, none⟩ (.bool true)).drewN qn) w6.heap.size m rows st5.ks (p + 1)) := Lib.hid (seen_set HSN.out HX.out.2.2 HX.out.1 HX.out.2.1)
                have HB9 : Hid (Below (wb w s m).heap.size (wb w s m) ((wr.setCell ⟨w6.heap.size, i, none⟩ (.bool true)).drewN qn)) := Lib.hid (pw_below_drewN (HB7.out.setCell (p := ⟨w6.heap.size, i, none⟩) (Nat.le_trans HB5.out.size HB6.out.size) _) qn)
                clear x0 y0 y1 k1 HI6 HFR HSN HB7 HX HC
                go_roundw
                case rel => exact ⟨p + 1, by omega, by go_num, HI9, HFR9, HSN9, HB9⟩
                case measure => simp [intOf]; omega
              · have HEND : Hid (Slots (wb w s m) wr F g bm gt m (k + 1) s hd) := Lib.hid ⟨st5, HI6.out, HL5.out, by rw [← HRE.out]; exact HHD.out, HB7.out⟩
                obtain ⟨_, k1⟩ := wb_at HB7.out
                have hhm : (hd : Int) ≤ (m : Int) := by have := HHM.out; omega
                obtain rfl : p = hd := by omega
                clear HI6 HFR HSN HB7
                go_wp2
                go_roundw
                case rel => exact ⟨k + 1, p, by omega, by omega, by go_num, rfl, HEND⟩
                case measure => simp [intOf]; omega
      · rw [hsa, show max (ri : Int) 0 = ri by omega, decide_eq_true (show (0 : Int) ≤ ri by omega)] at hfc
        have HFC := Lib.hid hfc; have HSA := Lib.hid hsa; have HRI := Lib.hid hri
        have hrim : (ri : Int) < (m : Int) := by have := HLN.out; omega
        clear hfc hsa hri
        go_wp2_with fail
        refine HFC.out.mono ?_
        rintro e w4 ⟨rfl, qf, rfl⟩
        by_cases hkd : (IntKind.u64.wrap a).tmod 3 = 2
        · have t0 : ((IntKind.u64.wrap a).tmod 3 == 2) = true := by rw [hkd]; rfl
          clear hkd
          have hdel : del kd s st l = (((ri : Int), 0), ⟨st.ks.set ri none, st.wn, st.ck⟩) := by
            have h5 := (HI.out.ok.kb l (List.mem_of_getElem? (same_some HSA.out))).1
            unfold del
            rw [if_neg (fun h => h.elim (by decide) (fun h => h h5)), if_neg (by have := HSA.out; omega), HSA.out, Int.toNat_natCast]
          have hdc := hash_del (HIa.out.drewN qf) A1 c1 l (Kd.C_drewN HCa.out qf) hl HM.out
          rw [hdel] at hdc
          have HDC := Lib.hid hdc
          clear hdc hdel
          go_wp2_with fail
          refine HDC.out.mono ?_
          rintro e w5 ⟨rfl, hI5, hS5⟩
          obtain ⟨hd, hhd⟩ : ∃ hd : Nat, hd + 1 = held := ⟨held - 1, by have := held_del (same_some HSA.out); have := HHELD.out; omega⟩
          have HS5 : Hid (Slots (wb w s m) w5 F g bm gt m (k + 1) s hd) := Lib.hid ⟨⟨st.ks.set ri none, [], 0⟩, hI5, by show (st.ks.set ri none).length = m; rw [List.length_set]; exact HLN.out, by show ((st.ks.set ri none).filterMap id).length = hd; have := held_del (same_some HSA.out); have := HHELD.out; omega, hS5.below (pw_below_drewN HBa.out qf) HF.out⟩
          have heq : (held : Int) - 1 = (hd : Int) := by omega
          clear hI5 hS5 HIa HBa HCa HFC HDC HI HBEL g0' g1' g2'
          go_wp2_with fail
          clear heq hhd
          go_wp2_with fail
          obtain ⟨st5, hI5, hl5, hh5, hB5⟩ := HS5.out
          have HI5 := Lib.hid hI5; have HL5 := Lib.hid hl5
          refine (HashKeys.Keys_ hI5).mono ?_
          rintro e w6 ⟨v, rfl, hF6, hB6⟩
          obtain ⟨rows, hrows⟩ : ∃ rows, rows = st5.ks.filterMap id := ⟨_, rfl⟩
          rw [← hrows] at hF6 hh5
          have HRE := Lib.hid hrows
          have HINJ : Hid (∀ (i j : Nat) (l : List Int), st5.ks[i]? = some (some l) → st5.ks[j]? = some (some l) → i = j) := Lib.hid (by obtain ⟨D, _, hm⟩ := hI5.map; exact fun i j l h1 h2 => hm.inj h1 h2)
          have HRL : Hid (∀ l ∈ rows, l.length ≤ 16 ∧ Bs l) := Lib.hid (fun l hl => by
            rw [hrows] at hl
            obtain ⟨k, hk, e⟩ := List.mem_filterMap.1 hl
            have e : k = some l := e
            subst e
            have h1 := hI5.ok.kb l hk
            have h2 := hI5.ok.szs
            exact ⟨by omega, h1.2⟩)
          have HHM : Hid (hd ≤ m) := Lib.hid (by rw [← hh5, hrows, ← hl5]; exact List.length_filterMap_le _ _)
          obtain ⟨vA, vc, hv⟩ : ∃ A c, v = .slice A hd c := by
            rcases hF6 with ⟨h, h2⟩ | ⟨b, c, hs, h, _⟩
            · exact ⟨_, _, by rw [h, ← hh5, h2]; rfl⟩
            · exact ⟨_, _, by rw [← hh5]; exact h⟩
          subst hv
          have HF6 := Lib.hid hF6; have HB6 := Lib.hid hB6; have HB5 := Lib.hid hB5; have HHD := Lib.hid hh5
          clear hI5 hl5 hh5 hB5 hF6 hB6 hrows HS5
          obtain ⟨_, k1⟩ := wb_at (HB5.out.trans (HB6.out.mono HB5.out.size))
          go_wp2
          clear k1
          have HI6 := Lib.hid ((HI5.out.below HB6.out).alloc (.cells (madeCells #[.bool false] m) 4))
          have HFR := Lib.hid (HF6.out.below (below_alloc (Below.refl _ _) (.cells (madeCells #[.bool false] m) 4)))
          have HSN := Lib.hid (seen_start w6 m rows st5.ks)
          have HB7 := Lib.hid (below_alloc (HB5.out.trans (HB6.out.mono HB5.out.size)) (.cells (madeCells #[.bool false] m) 4))
          have hd64 : hd ≤ 64 := by have := HHM.out; omega
          go_loopw [127] (fun i wx => ∃ p : Nat, p ≤ hd ∧ i = .int .i64 (p : Int) ∧ Hid (HIx wx F g bm gt (k + 1) s st5.ks) ∧ Hid (FreshRows wx w5.heap.size (.slice vA hd vc) rows) ∧ Hid (SeenOk wx w6.heap.size m rows st5.ks p) ∧ Hid (Below (wb w s m).heap.size (wb w s m) wx)) (fun i _ => hd - (intOf i).toNat)
          case atStart => exact ⟨0, Nat.zero_le _, rfl, HI6, HFR, HSN, HB7⟩
          case round =>
            clear HI6 HFR HSN HB7
            obtain ⟨p, hp, rfl, HI6, HFR, HSN, HB7⟩ := hrel
            by_cases hlp : p < hd
            · have hpl : p < rows.length := by rw [HHD.out]; exact hlp
              obtain ⟨vb, vc', b1, c1', hv, x0, x1, x2⟩ := fresh_at HFR.out p hpl (by have := (HRL.out rows[p] (List.getElem_mem hpl)).1; omega)
              have hv2 : vA = some ⟨vb, 0, none⟩ := by injection hv
              subst hv2
              have hrp : rows[p]? = some (rows[p]'hpl) := List.getElem?_eq_getElem hpl
              obtain ⟨i, hsa, hki, him⟩ := keys_slot HINJ.out (l := rows[p]'hpl) (by rw [← HRE.out]; exact List.getElem_mem hpl)
              have hlb := (HRL.out rows[p] (List.getElem_mem hpl)).2
              generalize rows[p]'hpl = l2 at *
              rw [HL5.out] at him
              have hc := Find_ HI6.out (some ⟨b1, 0, none⟩) c1' l2 x2 hlb
              rw [hsa, show max (i : Int) 0 = i by omega, decide_eq_true (show (0 : Int) ≤ i by omega)] at hc
              have HC := Lib.hid hc
              obtain ⟨y0, y1⟩ := seen_cell HSN.out (by rw [HRE.out]; exact keys_nodup HINJ.out) him hrp hki
              obtain ⟨_, k1⟩ := wb_at HB7.out
              have HX := Lib.hid (And.intro hrp (And.intro hki him))
              have him2 : (i : Int) < (m : Int) := by omega
              clear hv x1 x2 hc hlb hsa hki hrp
              go_wp2_with fail
              refine HC.out.mono ?_
              rintro e w8 ⟨rfl, qn, rfl⟩
              go_wp2
              have HI9 : Hid (HIx ((wr.setCell ⟨w6.heap.size, i, none⟩ (.bool true)).drewN qn) F g bm gt (k + 1) s st5.ks) := Lib.hid ((HI6.out.keep (w' := wr.setCell ⟨w6.heap.size, i, none⟩ (.bool true)) (fun b hb => Below.heap_setCell _ _ _ b (by have := HI5.out.lt b hb; have := HB6.out.size; show b ≠ w6.heap.size; omega)) (by simp [World.setCell])).drewN qn)
              have HFR9 : Hid (FreshRows ((wr.setCell ⟨w6.heap.size, i, none⟩ (.bool true)).drewN qn) w5.heap.size (.slice (some ⟨vb, 0, none⟩) hd vc) rows) := Lib.hid ((by obtain ⟨sn, hr, _⟩ := HSN.out; exact fresh_set HFR.out hr : FreshRows (wr.setCell ⟨w6.heap.size, i, none⟩ (.bool true)) w5.heap.size (.slice (some ⟨vb, 0, none⟩) hd vc) rows).below (pw_below_drewN (Below.refl _ _) qn))
              have HSN9 : Hid (SeenOk ((wr.setCell ⟨w6.heap.size, i, none⟩ (.bool true)).drewN qn) w6.heap.size m rows st5.ks (p + 1)) := Lib.hid (seen_set HSN.out HX.out.2.2 HX.out.1 HX.out.2.1)
              have HB9 : Hid (Below (wb w s m).heap.size (wb w s m) ((wr.setCell ⟨w6.heap.size, i, none⟩ (.bool true)).drewN qn)) := Lib.hid (pw_below_drewN (HB7.out.setCell (p := ⟨w6.heap.size, i, none⟩) (Nat.le_trans HB5.out.size HB6.out.size) _) qn)
              clear x0 y0 y1 k1 HI6 HFR HSN HB7 HX HC
              go_roundw
              case rel => exact ⟨p + 1, by omega, by go_num, HI9, HFR9, HSN9, HB9⟩
              case measure => simp [intOf]; omega
            · have HEND : Hid (Slots (wb w s m) wr F g bm gt m (k + 1) s hd) := Lib.hid ⟨st5, HI6.out, HL5.out, by rw [← HRE.out]; exact HHD.out, HB7.out⟩
              obtain ⟨_, k1⟩ := wb_at HB7.out
              have hhm : (hd : Int) ≤ (m : Int) := by have := HHM.out; omega
              obtain rfl : p = hd := by omega
              clear HI6 HFR HSN HB7
              go_wp2
              go_roundw
              case rel => exact ⟨k + 1, p, by omega, by omega, by go_num, rfl, HEND⟩
              case measure => simp [intOf]; omega
        · have t0 : ((IntKind.u64.wrap a).tmod 3 == 2) = false := by simpa using hkd
          clear hkd
          have hpc := hash_put (HIa.out.drewN qf) (show k < 1099511627776 by omega) A1 c1 l f (Kd.C_drewN HCa.out qf) hl HM.out
          cases hp : putOld kd s st.ks l f with
          | some a' =>
            obtain ⟨p1, p2, p3⟩ := a'
            rw [show put kd s st l f = ((p1, p2, p3), st) by unfold put; rw [hp]] at hpc
            have t1 : (p3 == 0) = false := putOld_err hp
            have HPC := Lib.hid hpc
            clear hpc hp
            go_wp2_with fail
            refine HPC.out.mono ?_
            rintro e w5 ⟨rfl, hI5, hS5⟩
            obtain ⟨hd, hhd⟩ : ∃ hd, hd = held := ⟨_, rfl⟩
            have HS5 : Hid (Slots (wb w s m) w5 F g bm gt m (k + 1) s hd) := Lib.hid ⟨st, hI5, HLN.out, hhd ▸ HHELD.out, hS5.below (pw_below_drewN HBa.out qf) HF.out⟩
            rw [← hhd]
            clear hI5 hS5 hhd HIa HBa HCa HFC HPC HI HBEL g0' g1' g2'
            go_wp2_with fail
            obtain ⟨st5, hI5, hl5, hh5, hB5⟩ := HS5.out
            have HI5 := Lib.hid hI5; have HL5 := Lib.hid hl5
            refine (HashKeys.Keys_ hI5).mono ?_
            rintro e w6 ⟨v, rfl, hF6, hB6⟩
            obtain ⟨rows, hrows⟩ : ∃ rows, rows = st5.ks.filterMap id := ⟨_, rfl⟩
            rw [← hrows] at hF6 hh5
            have HRE := Lib.hid hrows
            have HINJ : Hid (∀ (i j : Nat) (l : List Int), st5.ks[i]? = some (some l) → st5.ks[j]? = some (some l) → i = j) := Lib.hid (by obtain ⟨D, _, hm⟩ := hI5.map; exact fun i j l h1 h2 => hm.inj h1 h2)
            have HRL : Hid (∀ l ∈ rows, l.length ≤ 16 ∧ Bs l) := Lib.hid (fun l hl => by
              rw [hrows] at hl
              obtain ⟨k, hk, e⟩ := List.mem_filterMap.1 hl
              have e : k = some l := e
              subst e
              have h1 := hI5.ok.kb l hk
              have h2 := hI5.ok.szs
              exact ⟨by omega, h1.2⟩)
            have HHM : Hid (hd ≤ m) := Lib.hid (by rw [← hh5, hrows, ← hl5]; exact List.length_filterMap_le _ _)
            obtain ⟨vA, vc, hv⟩ : ∃ A c, v = .slice A hd c := by
              rcases hF6 with ⟨h, h2⟩ | ⟨b, c, hs, h, _⟩
              · exact ⟨_, _, by rw [h, ← hh5, h2]; rfl⟩
              · exact ⟨_, _, by rw [← hh5]; exact h⟩
            subst hv
            have HF6 := Lib.hid hF6; have HB6 := Lib.hid hB6; have HB5 := Lib.hid hB5; have HHD := Lib.hid hh5
            clear hI5 hl5 hh5 hB5 hF6 hB6 hrows HS5
            obtain ⟨_, k1⟩ := wb_at (HB5.out.trans (HB6.out.mono HB5.out.size))
            go_wp2
            clear k1
            have HI6 := Lib.hid ((HI5.out.below HB6.out).alloc (.cells (madeCells #[.bool false] m) 4))
            have HFR := Lib.hid (HF6.out.below (below_alloc (Below.refl _ _) (.cells (madeCells #[.bool false] m) 4)))
            have HSN := Lib.hid (seen_start w6 m rows st5.ks)
            have HB7 := Lib.hid (below_alloc (HB5.out.trans (HB6.out.mono HB5.out.size)) (.cells (madeCells #[.bool false] m) 4))
            have hd64 : hd ≤ 64 := by have := HHM.out; omega
            go_loopw [127] (fun i wx => ∃ p : Nat, p ≤ hd ∧ i = .int .i64 (p : Int) ∧ Hid (HIx wx F g bm gt (k + 1) s st5.ks) ∧ Hid (FreshRows wx w5.heap.size (.slice vA hd vc) rows) ∧ Hid (SeenOk wx w6.heap.size m rows st5.ks p) ∧ Hid (Below (wb w s m).heap.size (wb w s m) wx)) (fun i _ => hd - (intOf i).toNat)
            case atStart => exact ⟨0, Nat.zero_le _, rfl, HI6, HFR, HSN, HB7⟩
            case round =>
              clear HI6 HFR HSN HB7
              obtain ⟨p, hp, rfl, HI6, HFR, HSN, HB7⟩ := hrel
              by_cases hlp : p < hd
              · have hpl : p < rows.length := by rw [HHD.out]; exact hlp
                obtain ⟨vb, vc', b1, c1', hv, x0, x1, x2⟩ := fresh_at HFR.out p hpl (by have := (HRL.out rows[p] (List.getElem_mem hpl)).1; omega)
                have hv2 : vA = some ⟨vb, 0, none⟩ := by injection hv
                subst hv2
                have hrp : rows[p]? = some (rows[p]'hpl) := List.getElem?_eq_getElem hpl
                obtain ⟨i, hsa, hki, him⟩ := keys_slot HINJ.out (l := rows[p]'hpl) (by rw [← HRE.out]; exact List.getElem_mem hpl)
                have hlb := (HRL.out rows[p] (List.getElem_mem hpl)).2
                generalize rows[p]'hpl = l2 at *
                rw [HL5.out] at him
                have hc := Find_ HI6.out (some ⟨b1, 0, none⟩) c1' l2 x2 hlb
                rw [hsa, show max (i : Int) 0 = i by omega, decide_eq_true (show (0 : Int) ≤ i by omega)] at hc
                have HC := Lib.hid hc
                obtain ⟨y0, y1⟩ := seen_cell HSN.out (by rw [HRE.out]; exact keys_nodup HINJ.out) him hrp hki
                obtain ⟨_, k1⟩ := wb_at HB7.out
                have HX := Lib.hid (And.intro hrp (And.intro hki him))
                have him2 : (i : Int) < (m : Int) := by omega
                clear hv x1 x2 hc hlb hsa hki hrp
                go_wp2_with fail
                refine HC.out.mono ?_
                rintro e w8 ⟨rfl, qn, rfl⟩
                go_wp2
                have HI9 : Hid (HIx ((wr.setCell ⟨w6.heap.size, i, none⟩ (.bool true)).drewN qn) F g bm gt (k + 1) s st5.ks) := Lib.hid ((HI6.out.keep (w' := wr.setCell ⟨w6.heap.size, i, none⟩ (.bool true)) (fun b hb => Below.heap_setCell _ _ _ b (by have := HI5.out.lt b hb; have := HB6.out.size; show b ≠ w6.heap.size; omega)) (by simp [World.setCell])).drewN qn)
                have HFR9 : Hid (FreshRows ((wr.setCell ⟨w6.heap.size, i, none⟩ (.bool true)).drewN qn) w5.heap.size (.slice (some ⟨vb, 0, none⟩) hd vc) rows) := Lib.hid ((by obtain ⟨sn, hr, _⟩ := HSN.out; exact fresh_set HFR.out hr : FreshRows (wr.setCell ⟨w6.heap.size, i, none⟩ (.bool true)) w5.heap.size (.slice (some ⟨vb, 0, none⟩) hd vc) rows).below (pw_below_drewN (Below.refl _ _) qn))
                have HSN9 : Hid (SeenOk ((wr.setCell ⟨w6.heap.size, i, none⟩ (.bool true)).drewN qn) w6.heap.size m rows st5.ks (p + 1)) := Lib.hid (seen_set HSN.out HX.out.2.2 HX.out.1 HX.out.2.1)
                have HB9 : Hid (Below (wb w s m).heap.size (wb w s m) ((wr.setCell ⟨w6.heap.size, i, none⟩ (.bool true)).drewN qn)) := Lib.hid (pw_below_drewN (HB7.out.setCell (p := ⟨w6.heap.size, i, none⟩) (Nat.le_trans HB5.out.size HB6.out.size) _) qn)
                clear x0 y0 y1 k1 HI6 HFR HSN HB7 HX HC
                go_roundw
                case rel => exact ⟨p + 1, by omega, by go_num, HI9, HFR9, HSN9, HB9⟩
                case measure => simp [intOf]; omega
              · have HEND : Hid (Slots (wb w s m) wr F g bm gt m (k + 1) s hd) := Lib.hid ⟨st5, HI6.out, HL5.out, by rw [← HRE.out]; exact HHD.out, HB7.out⟩
                obtain ⟨_, k1⟩ := wb_at HB7.out
                have hhm : (hd : Int) ≤ (m : Int) := by have := HHM.out; omega
                obtain rfl : p = hd := by omega
                clear HI6 HFR HSN HB7
                go_wp2
                go_roundw
                case rel => exact ⟨k + 1, p, by omega, by omega, by go_num, rfl, HEND⟩
                case measure => simp [intOf]; omega
          | none =>
            have hput : put kd s st l f = (((ri : Int), false, 0), ⟨st.ks, touched st.wn (ri : Int) (st.ck + 1), st.ck + 1⟩) := by
              unfold put
              rw [hp]
              simp only [HSA.out]
              rw [if_pos (by omega)]
            rw [hput] at hpc
            have HPC := Lib.hid hpc
            clear hpc hput hp
            go_wp2_with fail
            refine HPC.out.mono ?_
            rintro e w5 ⟨rfl, hI5, hS5⟩
            obtain ⟨hd, hhd⟩ : ∃ hd, hd = held := ⟨_, rfl⟩
            have HS5 : Hid (Slots (wb w s m) w5 F g bm gt m (k + 1) s hd) := Lib.hid ⟨⟨st.ks, [], 0⟩, hI5, HLN.out, hhd ▸ HHELD.out, hS5.below (pw_below_drewN HBa.out qf) HF.out⟩
            obtain ⟨_, k1⟩ := wb_at (hS5.below (pw_below_drewN HBa.out qf) HF.out)
            rw [← hhd]
            clear hI5 hS5 hhd HIa HBa HCa HFC HPC HI HBEL g0' g1' g2'
            go_wp2_with fail
            clear k1
            go_wp2_with fail
            obtain ⟨st5, hI5, hl5, hh5, hB5⟩ := HS5.out
            have HI5 := Lib.hid hI5; have HL5 := Lib.hid hl5
            refine (HashKeys.Keys_ hI5).mono ?_
            rintro e w6 ⟨v, rfl, hF6, hB6⟩
            obtain ⟨rows, hrows⟩ : ∃ rows, rows = st5.ks.filterMap id := ⟨_, rfl⟩
            rw [← hrows] at hF6 hh5
            have HRE := Lib.hid hrows
            have HINJ : Hid (∀ (i j : Nat) (l : List Int), st5.ks[i]? = some (some l) → st5.ks[j]? = some (some l) → i = j) := Lib.hid (by obtain ⟨D, _, hm⟩ := hI5.map; exact fun i j l h1 h2 => hm.inj h1 h2)
            have HRL : Hid (∀ l ∈ rows, l.length ≤ 16 ∧ Bs l) := Lib.hid (fun l hl => by
              rw [hrows] at hl
              obtain ⟨k, hk, e⟩ := List.mem_filterMap.1 hl
              have e : k = some l := e
              subst e
              have h1 := hI5.ok.kb l hk
              have h2 := hI5.ok.szs
              exact ⟨by omega, h1.2⟩)
            have HHM : Hid (hd ≤ m) := Lib.hid (by rw [← hh5, hrows, ← hl5]; exact List.length_filterMap_le _ _)
            obtain ⟨vA, vc, hv⟩ : ∃ A c, v = .slice A hd c := by
              rcases hF6 with ⟨h, h2⟩ | ⟨b, c, hs, h, _⟩
              · exact ⟨_, _, by rw [h, ← hh5, h2]; rfl⟩
              · exact ⟨_, _, by rw [← hh5]; exact h⟩
            subst hv
            have HF6 := Lib.hid hF6; have HB6 := Lib.hid hB6; have HB5 := Lib.hid hB5; have HHD := Lib.hid hh5
            clear hI5 hl5 hh5 hB5 hF6 hB6 hrows HS5
            obtain ⟨_, k1⟩ := wb_at (HB5.out.trans (HB6.out.mono HB5.out.size))
            go_wp2
            clear k1
            have HI6 := Lib.hid ((HI5.out.below HB6.out).alloc (.cells (madeCells #[.bool false] m) 4))
            have HFR := Lib.hid (HF6.out.below (below_alloc (Below.refl _ _) (.cells (madeCells #[.bool false] m) 4)))
            have HSN := Lib.hid (seen_start w6 m rows st5.ks)
            have HB7 := Lib.hid (below_alloc (HB5.out.trans (HB6.out.mono HB5.out.size)) (.cells (madeCells #[.bool false] m) 4))
            have hd64 : hd ≤ 64 := by have := HHM.out; omega
            go_loopw [127] (fun i wx => ∃ p : Nat, p ≤ hd ∧ i = .int .i64 (p : Int) ∧ Hid (HIx wx F g bm gt (k + 1) s st5.ks) ∧ Hid (FreshRows wx w5.heap.size (.slice vA hd vc) rows) ∧ Hid (SeenOk wx w6.heap.size m rows st5.ks p) ∧ Hid (Below (wb w s m).heap.size (wb w s m) wx)) (fun i _ => hd - (intOf i).toNat)
            case atStart => exact ⟨0, Nat.zero_le _, rfl, HI6, HFR, HSN, HB7⟩
            case round =>
              clear HI6 HFR HSN HB7
              obtain ⟨p, hp, rfl, HI6, HFR, HSN, HB7⟩ := hrel
              by_cases hlp : p < hd
              · have hpl : p < rows.length := by rw [HHD.out]; exact hlp
                obtain ⟨vb, vc', b1, c1', hv, x0, x1, x2⟩ := fresh_at HFR.out p hpl (by have := (HRL.out rows[p] (List.getElem_mem hpl)).1; omega)
                have hv2 : vA = some ⟨vb, 0, none⟩ := by injection hv
                subst hv2
                have hrp : rows[p]? = some (rows[p]'hpl) := List.getElem?_eq_getElem hpl
                obtain ⟨i, hsa, hki, him⟩ := keys_slot HINJ.out (l := rows[p]'hpl) (by rw [← HRE.out]; exact List.getElem_mem hpl)
                have hlb := (HRL.out rows[p] (List.getElem_mem hpl)).2
                generalize rows[p]'hpl = l2 at *
                rw [HL5.out] at him
                have hc := Find_ HI6.out (some ⟨b1, 0, none⟩) c1' l2 x2 hlb
                rw [hsa, show max (i : Int) 0 = i by omega, decide_eq_true (show (0 : Int) ≤ i by omega)] at hc
                have HC := Lib.hid hc
                obtain ⟨y0, y1⟩ := seen_cell HSN.out (by rw [HRE.out]; exact keys_nodup HINJ.out) him hrp hki
                obtain ⟨_, k1⟩ := wb_at HB7.out
                have HX := Lib.hid (And.intro hrp (And.intro hki him))
                have him2 : (i : Int) < (m : Int) := by omega
                clear hv x1 x2 hc hlb hsa hki hrp
                go_wp2_with fail
                refine HC.out.mono ?_
                rintro e w8 ⟨rfl, qn, rfl⟩
                go_wp2
                have HI9 : Hid (HIx ((wr.setCell ⟨w6.heap.size, i, none⟩ (.bool true)).drewN qn) F g bm gt (k + 1) s st5.ks) := Lib.hid ((HI6.out.keep (w' := wr.setCell ⟨w6.heap.size, i, none⟩ (.bool true)) (fun b hb => Below.heap_setCell _ _ _ b (by have := HI5.out.lt b hb; have := HB6.out.size; show b ≠ w6.heap.size; omega)) (by simp [World.setCell])).drewN qn)
                have HFR9 : Hid (FreshRows ((wr.setCell ⟨w6.heap.size, i, none⟩ (.bool true)).drewN qn) w5.heap.size (.slice (some ⟨vb, 0, none⟩) hd vc) rows) := Lib.hid ((by obtain ⟨sn, hr, _⟩ := HSN.out; exact fresh_set HFR.out hr : FreshRows (wr.setCell ⟨w6.heap.size, i, none⟩ (.bool true)) w5.heap.size (.slice (some ⟨vb, 0, none⟩) hd vc) rows).below (pw_below_drewN (Below.refl _ _) qn))
                have HSN9 : Hid (SeenOk ((wr.setCell ⟨w6.heap.size, i, none⟩ (.bool true)).drewN qn) w6.heap.size m rows st5.ks (p + 1)) := Lib.hid (seen_set HSN.out HX.out.2.2 HX.out.1 HX.out.2.1)
                have HB9 : Hid (Below (wb w s m).heap.size (wb w s m) ((wr.setCell ⟨w6.heap.size, i, none⟩ (.bool true)).drewN qn)) := Lib.hid (pw_below_drewN (HB7.out.setCell (p := ⟨w6.heap.size, i, none⟩) (Nat.le_trans HB5.out.size HB6.out.size) _) qn)
                clear x0 y0 y1 k1 HI6 HFR HSN HB7 HX HC
                go_roundw
                case rel => exact ⟨p + 1, by omega, by go_num, HI9, HFR9, HSN9, HB9⟩
                case measure => simp [intOf]; omega
              · have HEND : Hid (Slots (wb w s m) wr F g bm gt m (k + 1) s hd) := Lib.hid ⟨st5, HI6.out, HL5.out, by rw [← HRE.out]; exact HHD.out, HB7.out⟩
                obtain ⟨_, k1⟩ := wb_at HB7.out
                have hhm : (hd : Int) ≤ (m : Int) := by have := HHM.out; omega
                obtain rfl : p = hd := by omega
                clear HI6 HFR HSN HB7
                go_wp2
                go_roundw
                case rel => exact ⟨k + 1, p, by omega, by omega, by go_num, rfl, HEND⟩
                case measure => simp [intOf]; omega
    · obtain ⟨st, hI, hln, hhd, hBel⟩ := HS.out
      have HBEL := Lib.hid hBel
      have HEND : Hid (k = nn ∨ k = 60 ∧ k < nn) := Lib.hid (by omega)
      clear hI hln hhd HS
      rcases HEND.out with rfl | ⟨hk8, hlt2⟩
      · clear hlt hBel
        go_wp2
        go_ret
        exact ⟨rfl, HW.out.trans (HBEL.out.mono HW.out.size)⟩
      · obtain ⟨ad, a, l, f, A1, c1, rfl, g0, g1, g2, hl, hC, hm⟩ := op_at HX.out k hlt2
        have g0' := old hBel g0
        have g1' := old hBel g1
        have g2' := old hBel g2
        have n60 : (k : Int) ≥ 60 := by omega
        clear hC hm g0 g1 g2 hlt hBel hk8
        go_wp2
        go_ret
        exact ⟨rfl, HW.out.trans ((below_alloc HBEL.out _).mono HW.out.size)⟩
/-- The law, at whatever it is called. -/
theorem law_calls (s m : Int) (A : Option Addr) (xs : List (Int × List Int × Int)) (c : Nat) (w : World) (hx : Kd.C kOp w A xs.length xs) (hc : xs.length ≤ c) (hcm : c ≤ 9223372036854775807) (hxb : ∀ p ∈ xs, ∀ b ∈ p.2.1, 0 ≤ b ∧ b ≤ 255) :
    Calls Try.prog 6 #[.agg #[.int .i64 s, .int .i64 m], .slice A xs.length c] w fun e w' => e = .returned (.bool true) ∧ Below w.heap.size w w' := by
  by_cases h : SzOk s m
  · obtain ⟨k, rfl⟩ := Int.eq_ofNat_of_zero_le (show 0 ≤ m by have := h.2.2.1; omega)
    obtain ⟨h1, h2, h3, h4⟩ := h
    exact law_ok s k A xs c w h1 h2 (by omega) (by omega) hx hc hcm hxb
  · exact law_bad s m _ w h
end Go.Proofs.Ytfbajampfiodeaa.HashSlots
