/- array.Index as the abstract machine of the kind 0. -/
import Derived.Test.YtfbajampfiodeaaArr06
namespace Go.Proofs.Ytfbajampfiodeaa.Imp06
open Go.RowKit Go.Proofs.Ytfbajampfiodeaa.PArrayPlays Go.Proofs.YtfbajampfiodeaaW.PrintWords Go.Proofs.YtfbajampfiodeaaW.PrintLast Go.Proofs.YtfbajampfiodeaaW.PrintMore Go.Proofs.Ytfbajampfiodeaa.Mw Go.Proofs.Ytfbajampfiodeaa.Rx Go.Proofs.Ytfbajampfiodeaa.RxOps Go.Proofs.Ytfbajampfiodeaa.RxNew Go.Proofs.Ytfbajampfiodeaa.Fresh Go.Proofs.Ytfbajampfiodeaa.RefAbs Go.Proofs.Ytfbajampfiodeaa.Arr06
set_option linter.unusedVariables false
abbrev kd : Int := 0
def Imp (w : World) (F : Nat → Prop) (g n : Nat) (sz : Int) (st : St) : Prop := F g ∧ (∀ b, F b → b = g) ∧ sz = 4 ∧ ∃ m : Nat, 1 ≤ m ∧ m ≤ 64 ∧ st.ks = numk m m ∧ w.heap[g]? = some (.cells #[.int .i64 (m : Int)] 88 (0, 0))
section
variable {w w' : World} {F F' : Nat → Prop} {g n : Nat} {sz : Int} {st : St}
theorem Imp.keep (h : Imp w F g n sz st) (hk : ∀ b, F b → w'.heap[b]? = w.heap[b]?) (hsz : w.heap.size ≤ w'.heap.size) : Imp w' F g n sz st := by
  obtain ⟨h1, h2, h3, m, h4, h5, h6, h7⟩ := h; exact ⟨h1, h2, h3, m, h4, h5, h6, (hk g h1).trans h7⟩
theorem Imp.lt (h : Imp w F g n sz st) : ∀ b, F b → b < w.heap.size := by obtain ⟨h1, h2, h3, m, h4, h5, h6, h7⟩ := h; exact fun b hb => h2 b hb ▸ blk_lt h7
theorem Imp.more (h : Imp w F g n sz st) : Imp w F g (n + 1) sz st := h
/-- The world as it was before the index's block. -/
def before (w : World) (g : Nat) : World := { w with heap := w.heap.extract 0 g }
theorem before_size (w : World) (g : Nat) (hg : g < w.heap.size) : (before w g).heap.size = g := by simp [before]; omega
theorem before_below (w : World) (g : Nat) (hg : g < w.heap.size) : Below (before w g).heap.size (before w g) w := by
  have := before_size w g hg
  refine ⟨rfl, rfl, rfl, by omega, fun k hk => ?_⟩
  have hk' : k < g := by omega
  simp [before, Array.getElem?_extract]
  omega
/-- The state behind a call that turns nothing of it. -/
theorem Imp.call {m : Nat} {r : Int} (hF : F g) (hF2 : ∀ b, F b → b = g) (hz : sz = 4) (h1 : 1 ≤ m) (h2 : m ≤ 64) (hk : st.ks = numk m m) (hg : g < w.heap.size) (hI : IsS88 (before w g) w' g (m : Int)) (hB : Below (before w g).heap.size (before w g) w') (hK : KeepBut w w' g none) (st' : St) (hst : st'.ks = st.ks) :
    ∃ F', Imp w' F' g (n + 1) sz st' ∧ Step w w' F F' :=
  ⟨F, ⟨hF, hF2, hz, m, h1, h2, hst.trans hk, hI.1⟩, ⟨hB.os, hB.tape, hB.output, hK.1, fun b hb hf => hK.2 b hb (fun e => hf (e ▸ hF)) (by simp), fun b hb => .inl hb⟩⟩
theorem fnd_ks (l : List Int) : (fnd kd sz st l).2.ks = st.ks := by unfold fnd; split <;> rfl
theorem imp_find (h : Imp w F g n sz st) (A : Option Addr) (c : Nat) (l : List Int) (hC : Kd.C (Kd.int .u8) w A l.length l) (hl : l.length ≤ c) (hlb : ∀ x ∈ l, 0 ≤ x ∧ x ≤ 255) (hA : ∀ ad, A = some ad → 0 < l.length → ¬ F ad.block) :
    Calls Try.prog 23 #[.pointer (some ⟨g, 0, none⟩), .slice A l.length c] w fun e w' => e = .returned (.tuple #[.int .i64 (max (fnd kd sz st l).1 0), .bool (decide (0 ≤ (fnd kd sz st l).1))]) ∧ ∃ F', Imp w' F' g (n + 1) sz (fnd kd sz st l).2 ∧ Step w w' F F' := by
  obtain ⟨hF, hF2, hz, m, h1, h2, hk, hg⟩ := h
  have hap : ∀ ad, A = some ad → 0 < l.length → ad.block ≠ g := fun ad e hp e2 => hA ad e hp (e2 ▸ hF)
  have hI : IsS88 (before w g) w g (m : Int) := ⟨hg, by rw [before_size w g (blk_lt hg)]; exact Nat.le_refl _⟩
  by_cases h4 : l.length = 4
  · have e : (fnd kd sz st l).1 = sameAt l (numk m m) 0 := by unfold fnd; rw [if_pos (by omega), hk]
    rw [e]
    exact (array_Index_Find.calls 20 g m A c l _ _ _ _ w hI (before_below w g (blk_lt hg)) hC hl hap (find_both m h2 l h4 hlb)).mono fun e W ⟨he, hI', hB, hK⟩ => ⟨he, Imp.call (r := 0) hF hF2 hz h1 h2 hk (blk_lt hg) hI' hB hK _ (fnd_ks l)⟩
  · have e : (fnd kd sz st l).1 = -1 := by unfold fnd; rw [if_neg (by omega)]
    rw [e]
    exact (array_Index_Find.calls 20 g m A c l _ _ _ _ w hI (before_below w g (blk_lt hg)) hC hl hap (find_no m l h4)).mono fun e W ⟨he, hI', hB, hK⟩ => ⟨he, Imp.call (r := 0) hF hF2 hz h1 h2 hk (blk_lt hg) hI' hB hK _ (fnd_ks l)⟩
theorem imp_put (h : Imp w F g n sz st) (hn : n < 1099511627776) (A : Option Addr) (c : Nat) (l : List Int) (f : Int) (hC : Kd.C (Kd.int .u8) w A l.length l) (hl : l.length ≤ c) (hlb : ∀ x ∈ l, 0 ≤ x ∧ x ≤ 255) (hA : ∀ ad, A = some ad → 0 < l.length → ¬ F ad.block) :
    Calls Try.prog 24 #[.pointer (some ⟨g, 0, none⟩), .slice A l.length c, .int .u64 f] w fun e w' => e = .returned (.tuple #[.int .i64 (put kd sz st l f).1.1, .bool (put kd sz st l f).1.2.1, .int .i64 (put kd sz st l f).1.2.2]) ∧ ∃ F', Imp w' F' g (n + 1) sz (put kd sz st l f).2 ∧ Step w w' F F' := by
  obtain ⟨hF, hF2, hz, m, h1, h2, hk, hg⟩ := h
  have hap : ∀ ad, A = some ad → 0 < l.length → ad.block ≠ g := fun ad e hp e2 => hA ad e hp (e2 ▸ hF)
  have hI : IsS88 (before w g) w g (m : Int) := ⟨hg, by rw [before_size w g (blk_lt hg)]; exact Nat.le_refl _⟩
  have go : ∀ a st', put kd sz st l f = (a, st') → st'.ks = st.ks → array_Index_Put.f 20 m l f = some (a.1, a.2.1, a.2.2, (m : Int)) → Calls Try.prog 24 #[.pointer (some ⟨g, 0, none⟩), .slice A l.length c, .int .u64 f] w fun e w' => e = .returned (.tuple #[.int .i64 (put kd sz st l f).1.1, .bool (put kd sz st l f).1.2.1, .int .i64 (put kd sz st l f).1.2.2]) ∧ ∃ F', Imp w' F' g (n + 1) sz (put kd sz st l f).2 ∧ Step w w' F F' := by
    intro a st' e hst hf
    rw [e]
    exact (array_Index_Put.calls 20 g m A c l f _ _ _ _ _ w hI (before_below w g (blk_lt hg)) hC hl hap hf).mono fun e W ⟨he, hI', hB, hK⟩ => ⟨he, Imp.call (r := 0) hF hF2 hz h1 h2 hk (blk_lt hg) hI' hB hK _ hst⟩
  by_cases h4 : l.length = 4
  · have hF4 := find_both m h2 l h4 hlb
    by_cases hf2 : f > 2
    · exact go (0, false, 72) st (by unfold put putOld; rw [if_neg (by omega), if_pos hf2]) rfl (by unfold array_Index_Put.f; rw [hF4, Option.bind_some, if_pos (by omega), if_pos hf2])
    · by_cases hs : 0 ≤ sameAt l (numk m m) 0
      · rw [decide_eq_true hs] at hF4
        by_cases hf1 : f = 1
        · exact go (0, false, 70) st (by unfold put putOld; rw [if_neg (by omega), if_neg hf2, if_neg (by rw [hk]; omega), if_pos (by rw [hk]; exact ⟨hs, hf1⟩)]) rfl (by unfold array_Index_Put.f; rw [hF4, Option.bind_some, if_pos (by omega), if_neg hf2, if_pos rfl, if_pos hf1])
        · refine go (sameAt l (numk m m) 0, false, 0) ⟨st.ks, touched st.wn (sameAt l st.ks 0) (st.ck + 1), st.ck + 1⟩ ?_ rfl (by unfold array_Index_Put.f; rw [hF4, Option.bind_some, if_pos (by omega), if_neg hf2, if_pos rfl, if_neg hf1, show max (sameAt l (numk m m) 0) 0 = sameAt l (numk m m) 0 by omega])
          have e1 : putOld kd sz st.ks l f = none := by unfold putOld; rw [hk, if_neg (by omega), if_neg hf2, if_neg (by omega), if_neg (by omega), if_neg (by omega), if_neg (by omega)]
          unfold put
          rw [e1]
          simp only
          rw [if_pos (by rw [hk]; exact hs), hk]
      · rw [decide_eq_false hs] at hF4
        exact go (0, false, 71) st (by unfold put putOld; rw [if_neg (by omega), if_neg hf2, if_pos (by rw [hk]; exact ⟨rfl, by omega⟩)]) rfl (by unfold array_Index_Put.f; rw [hF4, Option.bind_some, if_pos (by omega), if_neg hf2, if_neg (by simp)])
  · exact go (0, false, 2) st (by unfold put putOld; rw [if_pos (by omega)]) rfl (by unfold array_Index_Put.f; rw [find_no m l h4, Option.bind_some, if_neg (by omega)])
theorem imp_del (h : Imp w F g n sz st) (A : Option Addr) (c : Nat) (l : List Int) (hC : Kd.C (Kd.int .u8) w A l.length l) (hl : l.length ≤ c) (hlb : ∀ x ∈ l, 0 ≤ x ∧ x ≤ 255) (hA : ∀ ad, A = some ad → 0 < l.length → ¬ F ad.block) :
    Calls Try.prog 25 #[.pointer (some ⟨g, 0, none⟩), .slice A l.length c] w fun e w' => e = .returned (.tuple #[.int .i64 (del kd sz st l).1.1, .int .i64 (del kd sz st l).1.2]) ∧ ∃ F', Imp w' F' g (n + 1) sz (del kd sz st l).2 ∧ Step w w' F F' := by
  rw [show del kd sz st l = ((0, 2), st) by unfold del; rw [if_pos (.inl rfl)]]
  go_enter Try.func25, Try.ntmps25
  go_wp2
  go_ret2
  exact ⟨rfl, F, h, Step.refl w F⟩
theorem imp_keys (h : Imp w F g n sz st) :
    Calls Try.prog 21 #[.pointer (some ⟨g, 0, none⟩)] w fun e w' => ∃ v, e = .returned v ∧ FreshRows w' w.heap.size v (keys st) ∧ Below w.heap.size w w' := by
  obtain ⟨hF, hF2, hz, m, h1, h2, hk, hg⟩ := h
  have hI : IsS88 (before w g) w g (m : Int) := ⟨hg, by rw [before_size w g (blk_lt hg)]; exact Nat.le_refl _⟩
  refine (array_Index_Keys.calls (m + 10) g m _ _ _ w hI (before_below w g (blk_lt hg)) (Keys_is m h2)).mono fun e W ⟨v, he, hSv, hI', hB, hK⟩ => ⟨v, he, ?_, ⟨hB.os, hB.tape, hB.output, hK.1, fun k hk' => ?_⟩⟩
  · have e1 : keys st = rows m := by unfold keys; rw [hk]; rfl
    rw [e1]
    refine FreshRows.of_R (Kd.S_R hSv) fun l hl => ?_
    rw [rows_eq] at hl
    obtain ⟨i, _, rfl⟩ := List.mem_map.1 hl
    simp
  · by_cases e : k = g
    · subst e; exact hI'.1.trans hg.symm
    · exact hK.2 k hk' e (by simp)
theorem imp_copy (h : Imp w F g n sz st) :
    Calls Try.prog 26 #[.pointer (some ⟨g, 0, none⟩)] w fun e w' => ∃ F' g', e = .returned (.pointer (some ⟨g', 0, none⟩)) ∧ Imp w' F' g' n sz st ∧ (∀ b, F' b → w.heap.size ≤ b) ∧ Below w.heap.size w w' := by
  obtain ⟨hF, hF2, hz, m, h1, h2, hk, hg⟩ := h
  have hc : w.cell? ⟨g, 0, none⟩ = some (.int .i64 (m : Int)) := (blk_cell hg 0).trans rfl
  clear hg
  go_enter Try.func26, Try.ntmps26
  go_wp2
  go_ret
  exact ⟨fun b => b = w.heap.size, _, rfl, ⟨rfl, fun b h => h, hz, m, h1, h2, hk, heap_alloc_new w _⟩, fun b h => Nat.le_of_eq h.symm, below_alloc (Below.refl _ _) _⟩
end
theorem nil_find (A : Option Addr) (l c : Nat) (w : World) : Calls Try.prog 23 #[.pointer none, .slice A l c] w fun e w' => e = .returned (.tuple #[.int .i64 0, .bool false]) ∧ w = w' := by
  go_enter Try.func23, Try.ntmps23
  go_wp2
  go_ret2
  exact ⟨rfl, rfl⟩
theorem nil_put (A : Option Addr) (l c : Nat) (f : Int) (w : World) : Calls Try.prog 24 #[.pointer none, .slice A l c, .int .u64 f] w fun e w' => e = .returned (.tuple #[.int .i64 0, .bool false, .int .i64 1]) ∧ w = w' := by
  go_enter Try.func24, Try.ntmps24
  go_wp2_with fail
  refine (nil_find A l c _).mono ?_
  rintro e w' ⟨rfl, rfl⟩
  go_wp2
  go_ret3
  exact ⟨rfl, rfl⟩
theorem nil_del (A : Option Addr) (l c : Nat) (w : World) : Calls Try.prog 25 #[.pointer none, .slice A l c] w fun e w' => e = .returned (.tuple #[.int .i64 0, .int .i64 1]) ∧ w = w' := by
  go_enter Try.func25, Try.ntmps25
  go_wp2
  go_ret2
  exact ⟨rfl, rfl⟩
theorem nil_keys (w : World) : Calls Try.prog 21 #[.pointer none] w fun e w' => e = .returned (.slice none 0 0) ∧ w = w' := by
  go_enter Try.func21, Try.ntmps21
  go_wp2
  go_ret
  exact ⟨rfl, rfl⟩
theorem nil_copy (w : World) : Calls Try.prog 26 #[.pointer none] w fun e w' => e = .returned (.pointer none) ∧ w = w' := by
  go_enter Try.func26, Try.ntmps26
  go_wp2
  go_ret
  exact ⟨rfl, rfl⟩
/-- The sizes that may be. -/
def SzOk (s m : Int) : Prop := 1 ≤ m ∧ m ≤ 64
abbrev szOf (s : Int) : Int := 4
abbrev st0 (m : Int) : St := ⟨numk m.toNat m.toNat, List.replicate m.toNat 0, 0⟩
/-- Both are made. -/
theorem new_both (s m : Int) (h : SzOk s m) :
    (∀ w, Calls Try.prog 17 #[.int .i64 m] w fun e w' => ∃ F g, e = .returned (.tuple #[.pointer (some ⟨g, 0, none⟩), .int .i64 0]) ∧ Imp w' F g 0 (szOf s) (st0 m) ∧ (∀ b, F b → w.heap.size ≤ b) ∧ Below w.heap.size w w') ∧
    (∀ w, Calls Try.prog 18 #[.int .i64 0, .int .i64 4, .int .i64 m] w fun e w' => ∃ F g, e = .returned (.tuple #[.pointer (some ⟨g, 0, none⟩), .bool true]) ∧ RI w' F g kd (szOf s) (st0 m) ∧ (∀ b, F b → w.heap.size ≤ b) ∧ Below w.heap.size w w') := by
  obtain ⟨h1, h2⟩ := h
  obtain ⟨k, rfl⟩ := Int.eq_ofNat_of_zero_le (show 0 ≤ m by omega)
  refine ⟨fun w => ?_, fun w => (RxNew.New0_ok k w (by omega) (by omega)).mono fun e w' ⟨F, g, gs, gw, he, hI, hF, hB⟩ => ⟨F, g, he, ⟨gs, gw, _, hI⟩, hF, hB⟩⟩
  go_enter Try.func17, Try.ntmps17
  go_wp2
  go_ret2
  exact ⟨fun b => b = w.heap.size, _, rfl, ⟨rfl, fun b h => h, rfl, k, by omega, by omega, rfl, heap_alloc_new w _⟩, fun b h => Nat.le_of_eq h.symm, below_alloc (Below.refl _ _) _⟩
theorem new_bad (s m : Int) (h : ¬ SzOk s m) :
    (∀ w, Calls Try.prog 17 #[.int .i64 m] w fun e w' => e = .returned (.tuple #[.pointer none, .int .i64 2]) ∧ w = w') ∧
    (∀ w, Calls Try.prog 18 #[.int .i64 0, .int .i64 4, .int .i64 m] w fun e w' => e = .returned (.tuple #[.pointer none, .bool false]) ∧ w = w') := by
  unfold SzOk at h
  refine ⟨fun w => ?_, fun w => RxNew.New0_bad m w (by omega)⟩
  by_cases h1 : m < 1
  · clear h
    go_enter Try.func17, Try.ntmps17
    go_wp2
    go_ret2
    exact ⟨rfl, rfl⟩
  · have h2 : m > 64 := by omega
    clear h
    go_enter Try.func17, Try.ntmps17
    go_wp2
    go_ret2
    exact ⟨rfl, rfl⟩
end Go.Proofs.Ytfbajampfiodeaa.Imp06
